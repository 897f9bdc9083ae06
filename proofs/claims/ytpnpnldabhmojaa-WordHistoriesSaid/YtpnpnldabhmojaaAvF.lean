/- Operations that only read, the third part: arithmetic, comparisons, tuples, lengths, composite values; and all of them together. -/
import Derived.Test.YtpnpnldabhmojaaAvE
set_option linter.unusedVariables false
set_option linter.unusedSimpArgs false
namespace Go.Av
open Go Go.RowKit

def boolT (P : Program) (t : TypeId) : Bool :=
  match P.underlying t with
  | some .bool => true
  | _ => false

/-- The cells that '==' compares at a type, if all are numbers (0), bools (1) and strings (2). -/
def cmpT (P : Program) : Nat → TypeId → Option (List (Nat × Nat))
  | 0, _ => none
  | d + 1, t =>
    match P.underlying t with
    | some (.int _) => some [(0, 0)]
    | some .bool => some [(0, 1)]
    | some .string => some [(0, 2)]
    | some (.struct fs) => if P.stoodInHeld t then none else match sizeT P t with
      | some tot => cmpFields P tot (cmpT P d) fs.toList
      | none => none
    | _ => none
where
  cmpFields (P : Program) (tot : Nat) (sub : TypeId → Option (List (Nat × Nat))) : List Field → Option (List (Nat × Nat))
    | [] => some []
    | f :: fs => match sub f.type, sizeT P f.type, cmpFields P tot sub fs with
      | some m, some n, some l => if f.name = "_" ∨ n = 0 ∨ tot < f.offset + n then none else some (m.map (fun x => (f.offset + x.1, x.2)) ++ l)
      | _, _, _ => none

def cellEq : Nat → DV → DV → Option Bool
  | 0, .int k a, .int k' b => if k = k' then some (a == b) else none
  | 1, .bool a, .bool b => some (a == b)
  | 2, .str a, .str b => some (a == b)
  | _, _, _ => none

def cellsEq (l m : List DV) : List (Nat × Nat) → Option Bool
  | [] => some true
  | (i, k) :: is => match l[i]?, m[i]? with
    | some x, some y => match cellEq k x y, cellsEq l m is with
      | some b, some c => some (b && c)
      | _, _ => none
    | _, _ => none

def abin (P : Program) (t : TypeId) (op : BinOp) (x y : AV) : Option (Prop × AV) :=
  match x, y with
  | .sv (.one (.int k a)), .sv (.one (.int k' b)) =>
    if k = k' then
      match op with
      | .add => some (True, .sv (.one (.int k (k.wrap (a + b)))))
      | .sub => some (True, .sv (.one (.int k (k.wrap (a - b)))))
      | .mul => some (True, .sv (.one (.int k (k.wrap (a * b)))))
      | .quo => some (b ≠ 0, .sv (.one (.int k (k.wrap (a.tdiv b)))))
      | .rem => some (b ≠ 0, .sv (.one (.int k (a.tmod b))))
      | .eql => some (True, .sv (.one (.bool (a == b))))
      | .neq => some (True, .sv (.one (.bool (a != b))))
      | .lss => some (True, .sv (.one (.bool (decide (a < b)))))
      | .leq => some (True, .sv (.one (.bool (decide (a ≤ b)))))
      | .gtr => some (True, .sv (.one (.bool (decide (a > b)))))
      | .geq => some (True, .sv (.one (.bool (decide (a ≥ b)))))
      | _ => none
    else none
  | .sv (.one (.bool a)), .sv (.one (.bool b)) =>
    if boolT P t then
      match op with
      | .eql => some (True, .sv (.one (.bool (a == b))))
      | .neq => some (True, .sv (.one (.bool (!(a == b)))))
      | _ => none
    else none
  | .sv (.one (.str a)), .sv (.one (.str b)) =>
    match op with
    | .eql => some (True, .sv (.one (.bool (a == b))))
    | .neq => some (True, .sv (.one (.bool (!(a == b)))))
    | _ => none
  | .sv (.ag l), .sv (.ag m) =>
    match cmpT P 20 t, kindT P t, sizeT P t with
    | some is, some true, some n => if P.eqGuardType P.depth t then none else match cellsEq l m is with
      | some b => match op with
        | .eql => some (l.length = n ∧ m.length = n, .sv (.one (.bool b)))
        | .neq => some (l.length = n ∧ m.length = n, .sv (.one (.bool (!b))))
        | _ => none
      | none => none
    | _, _, _ => none
  | _, _ => none

theorem cellsEq_append (l m : List DV) : ∀ (is js : List (Nat × Nat)) (b : Bool), cellsEq l m (is ++ js) = some b → ∃ c d, cellsEq l m is = some c ∧ cellsEq l m js = some d ∧ b = (c && d)
  | [], js, b, h => ⟨true, b, rfl, h, by simp⟩
  | (i, k) :: is, js, b, h => by
    simp only [List.cons_append, cellsEq] at h ⊢
    split at h
    · split at h
      · rename_i b1 c1 hb1 hc1
        obtain ⟨c, d, h1, h2, rfl⟩ := cellsEq_append l m is js c1 hc1
        injection h with h
        subst h
        exact ⟨b1 && c, d, by simp [hb1, h1], h2, by simp [Bool.and_assoc]⟩
      · cases h
    · cases h

theorem cellsEq_drop (l m : List DV) (k : Nat) : ∀ (is : List (Nat × Nat)), cellsEq l m (is.map (fun x => (k + x.1, x.2))) = cellsEq (l.drop k) (m.drop k) is
  | [] => rfl
  | (i, j) :: is => by
    simp only [List.map_cons, cellsEq, List.getElem?_drop, cellsEq_drop l m k is]

section
variable {P : Program} {w : World}

/-- The cells of a value read as l, and l goes on. -/
def RdA (w : World) (S : Nat → Prop) (arr : Array Value) (l : List DV) : Prop := ∀ (i : Nat) (v : Value), arr[i]? = some v → ∃ (d : DV) (r : List Nat), l[i]? = some d ∧ Cz w S v d r

theorem RdA.extract {S : Nat → Prop} {arr : Array Value} {l : List DV} (h : RdA w S arr l) (off n : Nat) : RdA w S (arr.extract off (off + n)) (l.drop off) := by
  intro i v hv
  rw [Array.getElem?_extract] at hv
  split at hv
  · rw [List.getElem?_drop]
    exact h _ _ hv
  · cases hv

theorem eqFields_run {S : Nat → Prop} (d : Nat) (sub : TypeId → Option (List (Nat × Nat))) (tot : Nat)
    (hsub : ∀ t is, sub t = some is → (∀ x y a b r r' c l m, kindT P t = some false → Cz w S x a r → Cz w S y b r' → cellsEq (a :: l) (b :: m) is = some c → (Op.equalIn d t x y).run P w = .ok c w) ∧
      (∀ xs ys l m c n, kindT P t = some true → sizeT P t = some n → xs.size = n → ys.size = n → RdA w S xs l → RdA w S ys m → cellsEq l m is = some c → (Op.equalIn d t (.agg xs) (.agg ys)).run P w = .ok c w) ∧ kindT P t ≠ none) :
    ∀ (fs : List Field) (is : List (Nat × Nat)), cmpT.cmpFields P tot sub fs = some is → ∀ (xs ys : Array Value) (l m : List DV) (c : Bool), xs.size = tot → ys.size = tot → RdA w S xs l → RdA w S ys m → cellsEq l m is = some c → (Op.eqFields d xs ys fs).run P w = .ok c w
  | [], is, h, xs, ys, l, m, c, _, _, _, _, hc => by
    simp only [cmpT.cmpFields, Option.some.injEq] at h
    subst h
    simp only [cellsEq, Option.some.injEq] at hc
    subst hc
    rfl
  | f :: fs, is, h, xs, ys, l, m, c, hxs, hys, hx, hy, hc => by
    simp only [cmpT.cmpFields] at h
    split at h
    · rename_i ms n ls hm hn hl
      split at h
      · cases h
      · rename_i hcond
        simp only [not_or] at hcond
        injection h with h
        subst h
        obtain ⟨c1, c2, h1, h2, rfl⟩ := cellsEq_append l m _ _ c hc
        rw [cellsEq_drop] at h1
        obtain ⟨s1, s2, s3⟩ := hsub f.type ms hm
        have ih := eqFields_run d sub tot hsub fs ls hl xs ys l m c2 hxs hys hx hy h2
        have hname : f.name ≠ "_" := hcond.1
        have hrun : ∃ a b, (part f.type xs f.offset).run P w = .ok a w ∧ (part f.type ys f.offset).run P w = .ok b w ∧ (Op.equalIn d f.type a b).run P w = .ok c1 w := by
          cases hk : kindT P f.type with
          | none => exact (s3 hk).elim
          | some g =>
            cases g with
            | true =>
              refine ⟨.agg (xs.extract f.offset (f.offset + n)), .agg (ys.extract f.offset (f.offset + n)), ?_, ?_, ?_⟩
              · simp [part, run_isAgg hk, run_sizeOf hn]
              · simp [part, run_isAgg hk, run_sizeOf hn]
              · refine s2 _ _ _ _ _ n hk hn ?_ ?_ (hx.extract _ _) (hy.extract _ _) h1
                · simp; omega
                · simp; omega
            | false =>
              have e1 : xs[f.offset]? = some xs[f.offset] := Array.getElem?_eq_getElem (by omega)
              have e2 : ys[f.offset]? = some ys[f.offset] := Array.getElem?_eq_getElem (by omega)
              obtain ⟨a, r, ha, hca⟩ := hx _ _ e1
              obtain ⟨b, r', hb, hcb⟩ := hy _ _ e2
              refine ⟨xs[f.offset], ys[f.offset], by simp [part, run_isAgg hk, e1], by simp [part, run_isAgg hk, e2], ?_⟩
              have l1 : l.drop f.offset = a :: l.drop (f.offset + 1) := by
                have hlt := (List.getElem?_eq_some_iff.1 ha).1
                rw [List.drop_eq_getElem_cons hlt, (List.getElem?_eq_some_iff.1 ha).2]
              have l2 : m.drop f.offset = b :: m.drop (f.offset + 1) := by
                have hlt := (List.getElem?_eq_some_iff.1 hb).1
                rw [List.drop_eq_getElem_cons hlt, (List.getElem?_eq_some_iff.1 hb).2]
              rw [l1, l2] at h1
              exact s1 _ _ _ _ _ _ _ _ _ hk hca hcb h1
        obtain ⟨a, b, r1, r2, r3⟩ := hrun
        simp only [Op.eqFields, hname, ne_eq, not_false_eq_true, if_true, Sem.run_bind, r1, r2, r3, Result.andThen_ok]
        cases c1 with
        | true => simpa using ih
        | false => rfl
    · cases h

theorem eq_run {S : Nat → Prop} : ∀ (d : Nat) (t : TypeId) (is : List (Nat × Nat)), cmpT P d t = some is → ∀ D, d ≤ D →
      (∀ x y a b r r' c l m, kindT P t = some false → Cz w S x a r → Cz w S y b r' → cellsEq (a :: l) (b :: m) is = some c → (Op.equalIn D t x y).run P w = .ok c w) ∧
      (∀ xs ys l m c n, kindT P t = some true → sizeT P t = some n → xs.size = n → ys.size = n → RdA w S xs l → RdA w S ys m → cellsEq l m is = some c → (Op.equalIn D t (.agg xs) (.agg ys)).run P w = .ok c w) ∧ kindT P t ≠ none
  | 0, t, is, h, _, _ => by simp [cmpT] at h
  | d + 1, t, is, h, 0, hD => by omega
  | d + 1, t, is, h, D + 1, hD => by
    have one : ∀ (k : Nat) (a b : DV) (l m : List DV) (c : Bool), cellsEq (a :: l) (b :: m) [(0, k)] = some c → cellEq k a b = some c := by
      intro k a b l m c hc
      simp only [cellsEq, List.getElem?_cons_zero] at hc
      split at hc
      · rename_i b1 c1 hb hc1
        injection hc1 with hc1
        subst hc1
        rw [hb]
        simpa using hc
      · cases hc
    simp only [cmpT] at h
    split at h
    · rename_i k hu
      injection h with h
      subst h
      refine ⟨fun x y a b r r' c l m _ hx hy hc => ?_, fun _ _ _ _ _ _ hk => by simp [kindT, hu] at hk, by simp [kindT, hu]⟩
      have hc := one _ _ _ _ _ _ hc
      unfold cellEq at hc
      split at hc <;> first | (cases hc; done) | skip
      · rename_i ka na kb nb
        split at hc
        · rename_i hkk
          subst hkk
          injection hc with hc
          subst hc
          cases hx
          cases hy
          simp [Op.equalIn, run_underlying hu]
        · cases hc
      · omega
      · omega
    · rename_i hu
      injection h with h
      subst h
      refine ⟨fun x y a b r r' c l m _ hx hy hc => ?_, fun _ _ _ _ _ _ hk => by simp [kindT, hu] at hk, by simp [kindT, hu]⟩
      have hc := one _ _ _ _ _ _ hc
      unfold cellEq at hc
      split at hc <;> first | (cases hc; done) | skip
      · omega
      · injection hc with hc
        subst hc
        cases hx
        cases hy
        simp [Op.equalIn, run_underlying hu]
      · omega
    · rename_i hu
      injection h with h
      subst h
      refine ⟨fun x y a b r r' c l m _ hx hy hc => ?_, fun _ _ _ _ _ _ hk => by simp [kindT, hu] at hk, by simp [kindT, hu]⟩
      have hc := one _ _ _ _ _ _ hc
      unfold cellEq at hc
      split at hc <;> first | (cases hc; done) | skip
      · omega
      · omega
      · injection hc with hc
        subst hc
        cases hx
        cases hy
        simp [Op.equalIn, run_underlying hu]
    · rename_i fs hu
      split at h
      · cases h
      · rename_i hst
        split at h
        · rename_i tot htot
          refine ⟨fun _ _ _ _ _ _ _ _ _ hk => by simp [kindT, hu] at hk, fun xs ys l m c n _ hn hxs hys hx hy hc => ?_, by simp [kindT, hu]⟩
          rw [htot] at hn
          injection hn with hn
          subst hn
          have hfo : P.fieldsOf t = fs := by simp [Program.fieldsOf, hu]
          rw [run_equalIn_struct w D t xs ys (by rw [hfo]; exact hu) (by simpa using hst), hfo]
          exact eqFields_run D (cmpT P d) tot (fun t is h => eq_run d t is h D (by omega)) fs.toList is h xs ys l m c hxs hys hx hy hc
        · cases h
    · cases h
end

end Go.Av
