/- Calls by their contracts. -/
import Derived.Test.YtpnpnldabhmojaaAvL
set_option linter.unusedVariables false
set_option linter.unusedSimpArgs false
namespace Go.Av
open Go Go.RowKit

/-- What a call hands back. -/
inductive RV where
  | one (x : SV)
  | tup (l : List SV)

def RV.av : RV → AV
  | .one x => .sv x
  | .tup l => .tup l

inductive CzR (w : World) (S : Nat → Prop) : Value → RV → List Nat → Prop
  | one (v : Value) (x : SV) (r : List Nat) (h : CzS w S v x r) : CzR w S v (.one x) r
  | tup (vs : Array Value) (l : List SV) (r : List Nat) (h : CzSL w S vs.toList l r) : CzR w S (.tuple vs) (.tup l) r

/-- A function's contract: called with these data, all only read, in whatever memory, it hands back these. What it makes is its caller's. -/
def Impl (P : Program) (f : FuncId) (args : List SV) (r : RV) : Prop :=
  (∃ fn, P.funcs[f]? = some fn ∧ fn.body.isSome = true ∧ fn.name ≠ "runtime.NumGoroutine") ∧
  ∀ (w : World) (S : Nat → Prop) (vs : List Value), (∀ b, S b → b < w.heap.size) → CzSL w S vs args [] →
    Calls P f vs.toArray w fun e w' => ∃ v rs, e = .returned v ∧ Below w.heap.size w w' ∧ (∀ b ∈ rs, w.heap.size ≤ b ∧ b < w'.heap.size) ∧ rs.Nodup ∧
      CzR w' (fun b => S b ∨ (w.heap.size ≤ b ∧ b < w'.heap.size ∧ b ∉ rs)) v r rs

/-- A function's contract where it takes over its first argument: the blocks that this owns are the function's to change, and the result may own them. -/
def ImplC (P : Program) (f : FuncId) (x : DV) (args : List SV) (y : DV) : Prop :=
  (∃ fn, P.funcs[f]? = some fn ∧ fn.body.isSome = true ∧ fn.name ≠ "runtime.NumGoroutine") ∧
  ∀ (w : World) (S : Nat → Prop) (v0 : Value) (vs : List Value) (r0 : List Nat) (B : Nat), (∀ b, S b → b < w.heap.size) → (∀ b ∈ r0, B ≤ b ∧ b < w.heap.size ∧ ¬ S b) → r0.Nodup → B ≤ w.heap.size → Cz w S v0 x r0 → CzSL w S vs args [] →
    Calls P f (v0 :: vs).toArray w fun e w' => ∃ v rs, e = .returned v ∧ Below B w w' ∧ (∀ b, b < w.heap.size → b ∉ r0 → w'.heap[b]? = w.heap[b]?) ∧ (∀ b ∈ rs, (b ∈ r0 ∨ w.heap.size ≤ b) ∧ b < w'.heap.size) ∧ rs.Nodup ∧ Cz w' S v y rs

def SV.Closed : SV → Prop
  | .one x => Av.Closed x
  | .ag l => ∀ d ∈ l, Av.Closed d

def RV.Closed : RV → Prop
  | .one x => x.Closed
  | .tup l => ∀ x ∈ l, x.Closed

theorem CzS.closed {w : World} {S S' : Nat → Prop} {v : Value} {x : SV} {r : List Nat} (h : CzS w S v x r) (hc : x.Closed) : CzS w S' v x r := by
  cases h with
  | one v x r h => exact .one _ _ _ (h.closed hc)
  | ag vs l r h => exact .ag _ _ _ (h.closed hc)

theorem CzSL.closed {w : World} {S S' : Nat → Prop} {vs : List Value} {l : List SV} {r : List Nat} (h : CzSL w S vs l r) (hc : ∀ x ∈ l, x.Closed) : CzSL w S' vs l r := by
  induction h with
  | nil => exact .nil
  | cons v x r vs xs rs h _ ih => exact .cons _ _ _ _ _ _ (h.closed (hc x (by simp))) (ih (fun x hx => hc x (by simp [hx])))

theorem CzR.closed {w : World} {S S' : Nat → Prop} {v : Value} {x : RV} {r : List Nat} (h : CzR w S v x r) (hc : x.Closed) : CzR w S' v x r := by
  cases h with
  | one v x r h => exact .one _ _ _ (h.closed hc)
  | tup vs l r h => exact .tup _ _ _ (h.closed hc)

/-- An argument as the callee reads it. -/
def argOf (env : Env) : AV → Option SV
  | .sv (.one .nil) => some (.one (.sl []))
  | .sv x => some x
  | .al s p => match env.at s p with
    | some y => some (.one y.frz)
    | none => none
  | .sub s p lo hi => match env.at s p with
    | some (.ow _ els) => some (.one (.sl (((frzLL els).drop lo).take (hi - lo))))
    | _ => none
  | .bsl s p n => match env.at s p with
    | some (.bx l) => if n ≤ 1000000 then some (.one (.sl ((frzL l).map fun x => [x]))) else none
    | _ => none
  | _ => none

/-- Is it something that a slot owns? -/
def AV.owned (env : Env) : AV → Bool
  | .al s p => match env.at s p with
    | some (.sl _) => false
    | _ => true
  | .sub _ _ _ _ => true
  | .bsl _ _ _ => true
  | _ => false

def argsOf (env : Env) : List Operand → Option (List SV)
  | [] => some []
  | x :: xs => match argOf env (opd env x), argsOf env xs with
    | some y, some ys => some (y :: ys)
    | _, _ => none

section
variable {P : Program} {N B : Nat} {w0 : World} {S0 : Nat → Prop} {env : Env} {a : Act} {w : World} {rows : Nat → List Nat} {next : Act → World → Prop} {Q : Exit → Act → World → Prop}

theorem SimR.arg_ok (h : SimR N B w0 S0 env a w rows) {x : Operand} {y : SV} (he : argOf env (opd env x) = some y) {S' : Nat → Prop} (hS : ∀ b, SS B S0 w rows b → S' b) (ho : (opd env x).owned env = true → ∀ t, ∀ b ∈ rows t, S' b) : CzS w S' (a.eval x) y [] := by
  have hx := h.opd_ok x
  generalize opd env x = av at *
  generalize a.eval x = v0 at *
  unfold argOf at he
  split at he
  · injection he with he
    subst he
    have hx := CzS.one_inv hx
    generalize hr : ([] : List Nat) = r at hx
    cases hx
    exact .one _ _ _ (.shNil _ _)
  · injection he with he
    subst he
    exact CzS.keep (fun b hb => ⟨hS b hb, rfl⟩) hx (fun _ _ => rfl)
  · rename_i s p
    obtain ⟨_, x0, y0, hroot, hcat⟩ := hx
    split at he
    · rename_i y1 hat
      injection he with he
      subst he
      obtain ⟨rfl, r, hcz, hr⟩ := h.place hroot hcat hat
      refine .one _ _ _ (hcz.freeze hS fun b hb => ?_)
      cases hown : (AV.al s p).owned env with
      | true => exact ho hown s b (hr b hb)
      | false =>
        unfold AV.owned at hown
        simp only [hat] at hown
        split at hown
        · rename_i heq
          injection heq with heq
          subst heq
          cases hcz <;> cases hb
        · cases hown
    · cases he
  · rename_i s p lo hi
    obtain ⟨_, x0, y0, A, n, c, els0, hroot, hcat, hels, hn, h3, h4, h5, z0, hz0, hv⟩ := hx
    split at he
    · rename_i z els hat
      injection he with he
      subst he
      obtain ⟨rfl, r, hcz, hr⟩ := h.place hroot hcat hat
      simp only [DV.elsOf, Option.some.injEq] at hels
      subst hels
      have hf := hcz.freeze hS (fun b hb => ho rfl s b (hr b hb))
      simp only [DV.frz] at hf
      obtain ⟨A', c', hv', _, hcut⟩ := hf.sh_cut (l := lo) (u := hi) (z := z0) h3 (by rw [frzLL_length]; omega) (frzLL_all _ hz0)
      injection hv' with e1 e2 e3
      subst e1
      subst e3
      rw [hv]
      exact .one _ _ _ hcut
    · cases he
  · rename_i s p n
    obtain ⟨_, x0, u, y0, el, ad, hroot, hcat, hel, had, hlen, hv⟩ := hx
    split at he
    · rename_i l hat
      split at he
      · rename_i hn
        injection he with he
        subst he
        obtain ⟨rfl, r, hcz, hr⟩ := h.place hroot hcat hat
        have hf := hcz.freeze hS (fun b hb => ho rfl s b (hr b hb))
        simp only [DV.frz] at hf
        simp only [DV.elAt, if_true, Option.some.injEq] at hel
        subst hel
        rw [hv]
        generalize hnil : ([] : List Nat) = rr at hf
        cases hf with
        | rf ad' _ vs h1 h2 h3 =>
          simp only [rowBase, Option.some.injEq] at had
          subst had
          refine .one _ _ _ (.sh _ n n 1 _ vs h1 (by simp [frzL_length, hlen]) (Nat.le_refl _) (by unfold maxLen; omega) (by simp) h2 ?_)
          have : ((frzL l).map fun x => [x]).flatten = frzL l := by
            induction frzL l with
            | nil => rfl
            | cons x l ih => simp [ih]
          rw [this]
          exact h3
      · cases he
    · cases he
  · cases he

theorem SimR.args_ok (h : SimR N B w0 S0 env a w rows) {S' : Nat → Prop} (hS : ∀ b, SS B S0 w rows b → S' b) : ∀ (xs : List Operand) (ys : List SV), argsOf env xs = some ys → (∀ x ∈ xs, (opd env x).owned env = true → ∀ t, ∀ b ∈ rows t, S' b) → CzSL w S' (xs.map a.eval) ys []
  | [], ys, he, _ => by
    simp only [argsOf, Option.some.injEq] at he
    subst he
    exact .nil
  | x :: xs, ys, he, ho => by
    simp only [argsOf] at he
    split at he
    · rename_i y ys' h1 h2
      injection he with he
      subst he
      have := CzSL.cons _ _ _ _ _ _ (h.arg_ok h1 hS (ho x (by simp))) (h.args_ok hS xs ys' h2 (fun x hx => ho x (by simp [hx])))
      simpa using this
    · cases he

/-- The function that a call names, and its arguments. -/
def acall (env : Env) (o : Op) : Option (FuncId × List SV × Bool) :=
  match o with
  | .call c => match c.callee with
    | .value (.func f) => match argsOf env c.args.toList with
      | some ys => some (f, ys, c.args.toList.any fun x => (opd env x).owned env)
      | none => none
    | _ => none
  | _ => none

/-- A call that takes over what slot s owns. -/
def acallC (env : Env) (o : Op) : Option (FuncId × Nat × DV × List SV) :=
  match o with
  | .call c => match c.callee, c.args.toList with
    | .value (.func f), x :: xs => match opd env x, argsOf env xs with
      | .al s [], some ys => match env.root s with
        | some y => if xs.any fun x => (opd env x).owned env then none else some (f, s, y, ys)
        | none => none
      | _, _ => none
    | _, _ => none
  | _ => none

theorem acall_run {o : Oper} {f : FuncId} {ys : List SV} {b : Bool} (he : acall env o.op = some (f, ys, b)) (hf : ∃ fn, P.funcs[f]? = some fn ∧ fn.body.isSome = true ∧ fn.name ≠ "runtime.NumGoroutine") :
    ∃ xs : List Operand, argsOf env xs = some ys ∧ b = xs.any (fun x => (opd env x).owned env) ∧ ∀ (a : Act) (w : World), (execOp a.eval o).run P w = .ok (.enter f (xs.map a.eval).toArray) w := by
  unfold acall at he
  split at he
  · rename_i c ho
    split at he
    · rename_i f' hcal
      split at he
      · rename_i ys' hys
        simp only [Option.some.injEq, Prod.mk.injEq] at he
        obtain ⟨rfl, rfl, rfl⟩ := he
        obtain ⟨fn, h1, h2, h3⟩ := hf
        refine ⟨c.args.toList, hys, rfl, fun a w => ?_⟩
        have hb : fn.body ≠ none := by intro hbb; simp [hbb] at h2
        have hmap : (c.args.toList.map a.eval).toArray = c.args.map a.eval := by
          rw [← Array.toList_map, Array.toArray_toList]
        rw [hmap]
        simp [execOp, ho, resolve, hcal, Act.eval, Deferred.ofValue, invoke, callFunc, run_program, h1, hb, h3]
      · cases he
    · cases he
  · cases he

theorem acallC_run {o : Oper} {f : FuncId} {s : Nat} {y : DV} {ys : List SV} (he : acallC env o.op = some (f, s, y, ys)) (hf : ∃ fn, P.funcs[f]? = some fn ∧ fn.body.isSome = true ∧ fn.name ≠ "runtime.NumGoroutine") :
    ∃ (x : Operand) (xs : List Operand), opd env x = .al s [] ∧ env.root s = some y ∧ argsOf env xs = some ys ∧ xs.any (fun x => (opd env x).owned env) = false ∧ ∀ (a : Act) (w : World), (execOp a.eval o).run P w = .ok (.enter f (a.eval x :: xs.map a.eval).toArray) w := by
  unfold acallC at he
  split at he
  · rename_i c ho
    split at he
    · rename_i f' x xs hcal hargs
      split at he
      · rename_i s' ys' hx hys
        split at he
        · rename_i y' hy
          split at he
          · cases he
          · rename_i hown
            simp only [Option.some.injEq, Prod.mk.injEq] at he
            obtain ⟨rfl, rfl, rfl, rfl⟩ := he
            obtain ⟨fn, h1, h2, h3⟩ := hf
            refine ⟨x, xs, hx, hy, hys, by simpa using hown, fun a w => ?_⟩
            have hb : fn.body ≠ none := by intro hbb; simp [hbb] at h2
            have hmap : (a.eval x :: xs.map a.eval).toArray = c.args.map a.eval := by
              rw [← List.map_cons, ← hargs, ← Array.toList_map, Array.toArray_toList]
            rw [hmap]
            simp [execOp, ho, resolve, hcal, Act.eval, Deferred.ofValue, invoke, callFunc, run_program, h1, hb, h3]
        · cases he
      · cases he
    · cases he
  · cases he
end

end Go.Av
