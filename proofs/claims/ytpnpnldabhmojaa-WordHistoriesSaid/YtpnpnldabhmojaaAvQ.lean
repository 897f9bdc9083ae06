/- A contract out of the walk of a body. -/
import Derived.Test.YtpnpnldabhmojaaAvP
set_option linter.unusedVariables false
set_option linter.unusedSimpArgs false
namespace Go.Av
open Go Go.RowKit

/-- One result, and the slot whose blocks it may own. -/
def res1 (P : Program) (env : Env) : ResultVar → Option (SV × Option Nat)
  | .tmp t => match env.get t with
    | .sv x => some (x, if x.cells.all DV.flat then none else some t)
    | .al s p => match env.at s p with
      | some y => some (.one y, some s)
      | none => none
    | _ => none
  | .cell t ty => match env.root t with
    | some (.bx l) => match kindT P ty, sizeT P ty with
      | some true, some n => if l.length = n then some (.ag l, some t) else none
      | some false, some _ => match l with
        | [d] => some (.one d, some t)
        | _ => none
      | _, _ => none
    | _ => none

def resL (P : Program) (env : Env) : List ResultVar → Option (List SV × List Nat)
  | [] => some ([], [])
  | x :: xs => match res1 P env x, resL P env xs with
    | some (y, none), some (ys, l) => some (y :: ys, l)
    | some (y, some s), some (ys, l) => some (y :: ys, s :: l)
    | _, _ => none

/-- Data may be handed on as data that is owned no longer. -/
def SV.toward : SV → SV → Prop
  | .one .nil, .one (.sl els) => els = []
  | .one .nil, .one (.ow _ els) => els = []
  | .one (.ow _ els), .one (.sl els') => frzLL els = els'
  | x, y => x = y

def towardL : List SV → List SV → Prop
  | [], [] => True
  | x :: xs, y :: ys => x.toward y ∧ towardL xs ys
  | _, _ => False

def RV.list : RV → List SV
  | .one x => [x]
  | .tup l => l

def RV.wf : RV → Prop
  | .one _ => True
  | .tup l => l.length ≠ 1

/-- What is asked where a body ends. -/
def endsIn (P : Program) (rl : List ResultVar) (r : RV) (x : Exit) (env : Env) : Prop :=
  (match x with | .ret => True | .normal => True | _ => False) ∧
  match resL P env rl with
  | some (l, roots) => roots.Nodup ∧ towardL l r.list ∧ r.wf
  | none => False

def slotsOf : Nat → List SV → Env
  | _, [] => []
  | i, x :: xs => (i, .sv x) :: slotsOf (i + 1) xs

/-- Each slice among the data has a length that an int holds. -/
def SV.sized : SV → Prop
  | .one (.sl els) => els.length ≤ maxLen
  | .ag l => ∀ els, DV.sl els ∈ l → els.length ≤ maxLen
  | _ => True

section
variable {P : Program} {N B : Nat} {w0 : World} {S0 : Nat → Prop} {env : Env} {a : Act} {w : World} {rows : Nat → List Nat}

def resRun (tmps : Array Value) : ResultVar → Sem Value
  | .tmp t => pure (tmps.getD t Go.undef)
  | .cell a t => do loadVar t (← asAddr (tmps.getD a Go.undef))

theorem SimR.res1_ok (h : SimR N B w0 S0 env a w rows) {x : ResultVar} {y : SV} {ro : Option Nat} (he : res1 P env x = some (y, ro)) :
    ∃ v r, (resRun a.tmps x).run P w = .ok v w ∧ CzS w (SS B S0 w rows) v y r ∧ r.Nodup ∧ ∀ b ∈ r, ∃ s, ro = some s ∧ b ∈ rows s := by
  unfold res1 at he
  split at he
  · rename_i t
    have hr := h.rel t
    split at he
    · rename_i x hx
      rw [hx] at hr
      simp only [Option.some.injEq, Prod.mk.injEq] at he
      obtain ⟨rfl, rfl⟩ := he
      refine ⟨Act.f a t, rows t, rfl, hr, h.nodup t, fun b hb => ?_⟩
      split
      · rename_i hfl
        have hc := CzS.cells hr
        rw [hc.flat_rows hfl] at hb
        cases hb
      · exact ⟨t, rfl, hb⟩
    · rename_i s p hx
      rw [hx] at hr
      obtain ⟨_, x0, y0, hroot, hcat⟩ := hr
      split at he
      · rename_i y1 hat
        simp only [Option.some.injEq, Prod.mk.injEq] at he
        obtain ⟨rfl, rfl⟩ := he
        obtain ⟨rfl, _⟩ := h.place hroot hcat hat
        obtain ⟨ru, rest, hcu, hmem, _, hndu, _⟩ := (h.root_cz hroot).lens p (h.nodup s) hcat
        exact ⟨_, ru, rfl, .one _ _ _ hcu, hndu, fun b hb => ⟨s, rfl, (hmem b).2 (.inl hb)⟩⟩
      · cases he
    · cases he
  · rename_i t ty
    split at he
    · rename_i l hroot
      have hcz := h.root_cz hroot
      have hnd := h.nodup t
      have hv : a.tmps.getD t Go.undef = Act.f a t := rfl
      generalize hvv : Act.f a t = vt at *
      generalize hrr : rows t = rt at *
      cases hcz with
      | bx b l T cs rs hb hl =>
        have hnd' := (List.nodup_cons.1 hnd).2
        have hlen := hl.length
        have haddr : (asAddr (a.tmps.getD t Go.undef)).run P w = .ok ⟨b, 0, none⟩ w := by rw [hv]; rfl
        split at he
        · rename_i n hk hs
          split at he
          · rename_i hln
            simp only [Option.some.injEq, Prod.mk.injEq] at he
            obtain ⟨rfl, rfl⟩ := he
            refine ⟨.agg cs, rs, ?_, .ag cs l rs hl, hnd', fun b' hb' => ⟨t, rfl, by rw [hrr]; simp [hb']⟩⟩
            have hload := run_loadVar_agg (P := P) (w := w) (a := ⟨b, 0, none⟩) (vs := cs.toList) hk (by rw [hlen, hln, hs]) (fun j u hu => by
              rw [add_mk, Nat.zero_add, cell_of_row w b _ cs T (0, 0) hb]
              simpa using hu)
            simp only [resRun, Sem.run_bind, haddr, Result.andThen_ok, hload]
          · cases he
        · rename_i n hk hs
          split at he
          · rename_i d
            simp only [Option.some.injEq, Prod.mk.injEq] at he
            obtain ⟨rfl, rfl⟩ := he
            obtain ⟨c, r, hc, hcz, hr⟩ := hl.get (i := 0) rfl
            have hcells : w.cell? ⟨b, 0, none⟩ = some c := by
              rw [cell_of_row w b _ cs T (0, 0) hb]
              simpa using hc
            have hload := run_loadVar_one (P := P) hk hcells
            have hone : ∃ r', Cz w (SS B S0 w rows) c d r' ∧ r' = rs := by
              have hcs : cs.toList = [c] := by
                cases hq : cs.toList with
                | nil => rw [hq] at hlen; simp at hlen
                | cons c' l' =>
                  rw [hq] at hlen hc
                  simp at hlen hc
                  rw [hlen, hc]
              rw [hcs] at hl
              exact ⟨rs, hl.single, rfl⟩
            obtain ⟨_, hcz', rfl⟩ := hone
            refine ⟨c, _, ?_, .one _ _ _ hcz', hnd', fun b' hb' => ⟨t, rfl, by rw [hrr]; simp [hb']⟩⟩
            simp only [resRun, Sem.run_bind, haddr, Result.andThen_ok, hload]
          · cases he
        · cases he
    · cases he

theorem toward_ok {S : Nat → Prop} {v : Value} {x y : SV} {r : List Nat} (h : CzS w S v x r) (ht : x.toward y) :
    ∃ r' : List Nat, (∀ b ∈ r', b ∈ r) ∧ (r.Nodup → r'.Nodup) ∧ (∀ S'' : Nat → Prop, (∀ b, S b → S'' b) → (∀ b ∈ r, b ∉ r' → S'' b) → CzS w S'' v y r') := by
  unfold SV.toward at ht
  split at ht
  · subst ht
    have hcz := CzS.one_inv h
    cases hcz
    exact ⟨[], by simp, by simp, fun _ _ _ => .one _ _ _ (.shNil _ _)⟩
  · subst ht
    have hcz := CzS.one_inv h
    cases hcz
    exact ⟨[], by simp, by simp, fun _ _ _ => .one _ _ _ (.owNil _)⟩
  · subst ht
    have hcz := CzS.one_inv h
    exact ⟨[], by simp, by simp, fun S'' h1 h2 => .one _ _ _ (hcz.freeze h1 (fun b hb => h2 b hb (by simp)))⟩
  · subst ht
    exact ⟨r, fun _ h => h, fun h => h, fun S'' h1 _ => h.keep (fun b hb => ⟨h1 b hb, rfl⟩) (fun _ _ => rfl)⟩

theorem SimR.resL_ok (h : SimR N B w0 S0 env a w rows) : ∀ (xs : List ResultVar) (l : List SV) (roots : List Nat), resL P env xs = some (l, roots) → roots.Nodup → ∀ l', towardL l l' →
    ∃ vs rs, (xs.mapM (resRun a.tmps)).run P w = .ok vs w ∧ vs.length = l'.length ∧ rs.Nodup ∧ (∀ b ∈ rs, ∃ s ∈ roots, b ∈ rows s) ∧
      ∀ S'' : Nat → Prop, (∀ b, SS B S0 w rows b → S'' b) → (∀ s ∈ roots, ∀ b ∈ rows s, b ∉ rs → S'' b) → CzSL w S'' vs l' rs
  | [], l, roots, he, _, l', ht => by
    simp only [resL, Option.some.injEq, Prod.mk.injEq] at he
    obtain ⟨rfl, rfl⟩ := he
    cases l' with
    | nil => exact ⟨[], [], rfl, rfl, by simp, by simp, fun _ _ _ => .nil⟩
    | cons _ _ => exact ht.elim
  | x :: xs, l, roots, he, hnd, l', ht => by
    simp only [resL] at he
    split at he
    · rename_i y ys l0 h1 h2
      simp only [Option.some.injEq, Prod.mk.injEq] at he
      obtain ⟨rfl, rfl⟩ := he
      cases l' with
      | nil => exact ht.elim
      | cons z zs =>
        obtain ⟨ht1, ht2⟩ := ht
        obtain ⟨v, r, g1, g2, g3, g4⟩ := h.res1_ok h1
        have hr0 : r = [] := List.eq_nil_iff_forall_not_mem.2 fun b hb => by obtain ⟨s, hs, _⟩ := g4 b hb; cases hs
        subst hr0
        obtain ⟨r', k1, k2, k3⟩ := toward_ok g2 ht1
        have hr0' : r' = [] := List.eq_nil_iff_forall_not_mem.2 fun b hb => by simpa using k1 b hb
        subst hr0'
        obtain ⟨vs, rs, m1, m2, m3, m4, m5⟩ := h.resL_ok xs ys l0 h2 hnd zs ht2
        refine ⟨v :: vs, rs, ?_, by simp [m2], m3, m4, fun S'' s1 s2 => ?_⟩
        · simp only [List.mapM_cons, Sem.run_bind, g1, Result.andThen_ok, m1, Sem.run_pure]
        · have := CzSL.cons _ _ _ _ _ _ (k3 S'' s1 (by simp)) (m5 S'' s1 s2)
          simpa using this
    · rename_i y s ys l0 h1 h2
      simp only [Option.some.injEq, Prod.mk.injEq] at he
      obtain ⟨rfl, rfl⟩ := he
      cases l' with
      | nil => exact ht.elim
      | cons z zs =>
        obtain ⟨ht1, ht2⟩ := ht
        obtain ⟨hs0, hnd0⟩ := List.nodup_cons.1 hnd
        obtain ⟨v, r, g1, g2, g3, g4⟩ := h.res1_ok h1
        have g4' : ∀ b ∈ r, b ∈ rows s := fun b hb => by obtain ⟨s', hs', hb'⟩ := g4 b hb; injection hs' with hs'; subst hs'; exact hb'
        obtain ⟨r', k1, k2, k3⟩ := toward_ok g2 ht1
        obtain ⟨vs, rs, m1, m2, m3, m4, m5⟩ := h.resL_ok xs ys l0 h2 hnd0 zs ht2
        have hdis : ∀ b ∈ r', b ∉ rs := by
          intro b hb hb'
          obtain ⟨s', hs', hbs⟩ := m4 b hb'
          refine h.apart s s' ?_ b (g4' b (k1 b hb)) hbs
          rintro rfl
          exact hs0 hs'
        refine ⟨v :: vs, r' ++ rs, ?_, by simp [m2], ?_, ?_, fun S'' s1 s2 => ?_⟩
        · simp only [List.mapM_cons, Sem.run_bind, g1, Result.andThen_ok, m1, Sem.run_pure]
        · rw [List.nodup_append]
          exact ⟨k2 g3, m3, fun b hb b' hb' e => hdis b hb (e ▸ hb')⟩
        · intro b hb
          rcases List.mem_append.1 hb with hb | hb
          · exact ⟨s, by simp, g4' b (k1 b hb)⟩
          · obtain ⟨s', hs', hbs⟩ := m4 b hb
            exact ⟨s', by simp [hs'], hbs⟩
        · refine .cons _ _ _ _ _ _ (k3 S'' s1 (fun b hb hb' => s2 s (by simp) b (g4' b hb) ?_)) (m5 S'' s1 (fun s' hs' b hb hb' => s2 s' (by simp [hs']) b hb ?_))
          · intro hc
            rcases List.mem_append.1 hc with hc | hc
            · exact hb' hc
            · obtain ⟨s', hs', hbs⟩ := m4 b hc
              refine h.apart s s' ?_ b (g4' b hb) hbs
              rintro rfl
              exact hs0 hs'
          · intro hc
            rcases List.mem_append.1 hc with hc | hc
            · refine h.apart s s' ?_ b (g4' b (k1 b hc)) hb
              rintro rfl
              exact hs0 hs'
            · exact hb' hc
    · cases he
end

theorem Cz.sized {w : World} {S : Nat → Prop} {v : Value} {els : List (List DV)} {r : List Nat} (h : Cz w S v (.sl els) r) : els.length ≤ maxLen := by
  cases h with
  | shNil => simp
  | sh ad n c z els vs hS hn hc hm hz hcell hl => omega

theorem CzS.sized {w : World} {S : Nat → Prop} {v : Value} {x : SV} {r : List Nat} (h : CzS w S v x r) : x.sized := by
  cases h with
  | one v x r h =>
    cases x with
    | sl els => exact h.sized
    | _ => trivial
  | ag vs l r h =>
    intro els hels
    obtain ⟨i, hi⟩ := List.mem_iff_getElem?.1 hels
    obtain ⟨c, r', _, hc, _⟩ := h.get hi
    exact hc.sized

theorem CzSL.sized {w : World} {S : Nat → Prop} {vs : List Value} {xs : List SV} {r : List Nat} (h : CzSL w S vs xs r) : ∀ x ∈ xs, x.sized := by
  induction h with
  | nil => simp
  | cons v x r vs xs rs h _ ih =>
    intro y hy
    rcases List.mem_cons.1 hy with rfl | hy
    · exact h.sized
    · exact ih y hy

theorem slotsOf_get : ∀ (l : List SV) (i t : Nat), (slotsOf i l).get t = if i ≤ t then (match l[t - i]? with | some x => .sv x | none => .no) else .no
  | [], i, t => by simp [slotsOf, Env.get]
  | x :: xs, i, t => by
    simp only [slotsOf, Env.get]
    by_cases e : i = t
    · subst e
      simp
    · rw [if_neg e, slotsOf_get xs (i + 1) t]
      by_cases h : i ≤ t
      · have h1 : i + 1 ≤ t := by omega
        rw [if_pos h1, if_pos h]
        have : t - i = (t - (i + 1)) + 1 := by omega
        rw [this, List.getElem?_cons_succ]
      · rw [if_neg (by omega), if_neg h]

theorem CzSL.get0 {w : World} {S : Nat → Prop} {vs : List Value} {xs : List SV} {r : List Nat} (h : CzSL w S vs xs r) (hr : r = []) : ∀ (i : Nat) (x : SV), xs[i]? = some x → ∃ v, vs[i]? = some v ∧ CzS w S v x [] := by
  induction h with
  | nil => simp
  | cons v x r vs xs rs h _ ih =>
    have h1 : r = [] ∧ rs = [] := by simpa using hr
    intro i y hy
    cases i with
    | zero =>
      simp at hy
      subst hy
      rw [h1.1] at h
      exact ⟨v, rfl, h⟩
    | succ i => exact ih h1.2 i y (by simpa using hy)

/-- A CONTRACT OUT OF A WALK. -/
theorem impl_intro {P : Program} {f : FuncId} {fn : Func} {c : Code} {ac : AC} {rl : List ResultVar} (hf : P.funcs[f]? = some fn) (hb : fn.body = some c) (hac : slim c = ac) (hrl : fn.results.toList = rl) (hname : fn.name ≠ "runtime.NumGoroutine") {N : Nat} (hN0 : fn.ntmps = N) (htx : textOk P N c = true)
    {args : List SV} {r : RV} (hN : args.length ≤ N) (h : (∀ x ∈ args, x.sized) → awp P ac (endsIn P rl r) (slotsOf 0 args)) : Impl P f args r := by
  subst hac
  subst hrl
  subst hN0
  refine ⟨⟨fn, hf, by simp [hb], hname⟩, fun w S vs hS hargs => ?_⟩
  have hlen := hargs.length
  let a : Act := { tmps := vs.toArray ++ Array.replicate (fn.ntmps - vs.toArray.size) Go.undef, defers := [] }
  have hsim : SimR fn.ntmps w.heap.size w S (slotsOf 0 args) a w (fun _ => []) := by
    refine ⟨rfl, ?_, Below.refl _ _, Nat.le_refl _, hS, by simp, by simp, by simp, fun t => ?_⟩
    · simp only [a, Array.size_append, List.size_toArray, Array.size_replicate]
      omega
    · rw [slotsOf_get]
      simp only [Nat.zero_le, if_true, Nat.sub_zero]
      split
      · rename_i x hx
        obtain ⟨v, hv, hcz⟩ := hargs.get0 rfl t x hx
        have hft : Act.f a t = v := by
          have hlt : t < vs.length := (List.getElem?_eq_some_iff.1 hv).1
          simp only [Act.f, a, Array.getD_eq_getD_getElem?]
          rw [Array.getElem?_append_left (by simpa using hlt)]
          simp [hv]
        rw [hft]
        exact hcz.keep (fun b hb => ⟨.inl hb, rfl⟩) (by simp)
      · trivial
  refine calls_of_wp hf hb (awp_ok (crossOf c) c _ _ _ a w htx (h hargs.sized) ⟨_, hsim⟩ ?_)
  rintro x env' a' w' ⟨hx, hend⟩ ⟨rows, hs⟩
  split at hend
  · rename_i l roots hres
    obtain ⟨hnd, ht, hwf⟩ := hend
    obtain ⟨rvs, rs, hrun, hvl, hrs, hroots, hcz⟩ := hs.resL_ok _ _ _ hres hnd r.list ht
    have hres2 : (results fn a'.tmps).run P w' = .ok (if h : rvs.length = 1 then rvs[0] else .tuple rvs.toArray) w' := by
      have hm : (fn.results.mapM (resRun a'.tmps)).run P w' = .ok rvs.toArray w' := by
        rw [Array.mapM_eq_mapM_toList]
        simp [hrun]
      have he : results fn a'.tmps = (fn.results.mapM (resRun a'.tmps) >>= fun vs => pure (if h : vs.size = 1 then vs[0] else .tuple vs)) := by
        unfold results
        refine congrArg (fun g : ResultVar → Sem Value => (fn.results.mapM g >>= fun vs => pure (if h : vs.size = 1 then vs[0] else .tuple vs))) (funext fun x => ?_)
        cases x <;> rfl
      rw [he]
      simp only [Sem.run_bind, hm, Result.andThen_ok, Sem.run_pure]
      by_cases h1 : rvs.length = 1
      · simp [h1]
      · simp [h1]
    have hSS : ∀ b, SS w.heap.size S w' rows b → (fun b => S b ∨ (w.heap.size ≤ b ∧ b < w'.heap.size ∧ b ∉ rs)) b := by
      intro b hb
      rcases hb with hb | ⟨h1, h2, h3⟩
      · exact .inl hb
      · refine .inr ⟨h1, h2, fun hb => ?_⟩
        obtain ⟨s, _, hbs⟩ := hroots b hb
        exact h3 s hbs
    have hczl := hcz (fun b => S b ∨ (w.heap.size ≤ b ∧ b < w'.heap.size ∧ b ∉ rs)) hSS (fun s _ b hb hnb => .inr ⟨(hs.own s b hb).1, (hs.own s b hb).2, hnb⟩)
    have hown : ∀ b ∈ rs, w.heap.size ≤ b ∧ b < w'.heap.size := by
      intro b hb
      obtain ⟨s, _, hbs⟩ := hroots b hb
      exact hs.own s b hbs
    have fin : CzR w' (fun b => S b ∨ (w.heap.size ≤ b ∧ b < w'.heap.size ∧ b ∉ rs)) (if h : rvs.length = 1 then rvs[0] else .tuple rvs.toArray) r rs := by
      cases r with
      | one x =>
        have h1 : rvs.length = 1 := by rw [hvl]; rfl
        simp only [h1, dite_true]
        simp only [RV.list] at hczl
        cases hczl with
        | cons v x r vs xs rs' h1 h2 =>
          cases h2 with
          | nil => exact .one _ _ _ (by simpa using h1)
      | tup l =>
        have h1 : ¬ rvs.length = 1 := by rw [hvl]; exact hwf
        simp only [h1, dite_false]
        exact .tup _ _ _ hczl
    cases x with
    | ret => exact ⟨hs.defers, _, hres2, _, rs, rfl, hs.below, hown, hrs, fin⟩
    | normal => exact ⟨hs.defers, _, hres2, _, rs, rfl, hs.below, hown, hrs, fin⟩
    | _ => exact hx.elim
  · exact hend.elim

end Go.Av
