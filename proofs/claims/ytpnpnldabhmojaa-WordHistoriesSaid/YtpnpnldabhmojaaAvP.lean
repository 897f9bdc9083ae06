/- Regions that draw their order; whole bodies; contracts from walks. -/
import Derived.Test.YtpnpnldabhmojaaAvZ
set_option linter.unusedVariables false
set_option linter.unusedSimpArgs false
namespace Go.Av
open Go Go.RowKit

/-- The value of scalar data. -/
def DV.val : DV → Option Value
  | .int k n => some (.int k n)
  | .bool b => some (.bool b)
  | .str s => some (.string s)
  | _ => none

theorem Cz.val_eq {w : World} {S : Nat → Prop} {v u : Value} {x : DV} {r : List Nat} (h : Cz w S v x r) (hv : x.val = some u) : v = u := by
  cases h <;> simp [DV.val] at hv <;> exact hv

/-- Which slots a region alone uses. -/
def isLocal (c : CR) (ks : List Nat) (t : Nat) : Bool := c.has t && !ks.contains t

/-- What is known of a region's own slots is dropped behind it. -/
def prune (c : CR) (ks : List Nat) : Env → Env
  | [] => []
  | (t, a) :: e => if isLocal c ks t then prune c ks e else (t, if a.refs.any (isLocal c ks) then .no else a) :: prune c ks e

theorem prune_get (c : CR) (ks : List Nat) (t : Nat) : ∀ (e : Env), (prune c ks e).get t = if isLocal c ks t || (e.get t).refs.any (isLocal c ks) then .no else e.get t
  | [] => by simp [prune, Env.get]
  | (s, a) :: e => by
    have ih := prune_get c ks t e
    by_cases hp : isLocal c ks s = true
    · by_cases h : s = t
      · subst h
        simp only [prune, hp, if_true, Bool.true_or]
        rw [ih, hp]
        simp
      · simp only [prune, hp, if_true, Env.get, h, if_false]
        exact ih
    · by_cases h : s = t
      · subst h
        simp [prune, hp, Env.get]
      · rw [prune, if_neg hp]
        simp only [Env.get, h, if_false]
        exact ih

/-- A function's code without its places in the text. -/
inductive AC where
  | skip
  | reg (ops : List SOp) (p : CR) (ks : List Nat)
  | drw (a : List DOp) (b : List BOp) (c : CR) (p : CR) (ks : List Nat)
  | seq (a b : AC)
  | cond (c : Operand) (a b : AC)
  | block (id : Nat) (b : AC)
  | loop (b : AC)
  | scp (b : AC)
  | exit (id : Nat)
  | ret
  | bad

/-- Slots that are read where they are not written. -/
def crossOf : Code → List Nat
  | .region _ ops _ => match slimOps ops ops.toList with
    | some l => let ds := l.filterMap (·.dst)
      dedup ((l.flatMap SOp.ts).filter fun t => !ds.contains t)
    | none => []
  | .seq a b => crossOf a ++ crossOf b
  | .cond c a b => tmpsL [c] ++ crossOf a ++ crossOf b
  | .block _ b => crossOf b
  | .loop b => crossOf b
  | .scope b => crossOf b
  | _ => []

def isVarOp : Op → Bool
  | .assign _ => true
  | .alloc _ => true
  | .box _ _ => true
  | _ => false

def localsOf (cr : List Nat) (l : List SOp) : List Nat :=
  l.filterMap fun o => match o.dst with
    | some d => if isVarOp o.op || cr.contains d then none else some d
    | none => none

def pruneOf (cr : List Nat) (l : List SOp) : CR × List Nat :=
  let ys := localsOf cr l
  let lo := ys.foldl min 1000000
  let hi := ys.foldl max 0
  if ys.isEmpty then (⟨1, 0, []⟩, []) else (⟨lo, hi, []⟩, (List.range' lo (hi + 1 - lo)).filter fun t => !ys.contains t)

def slimX (cr : List Nat) : Code → AC
  | .skip => .skip
  | .region _ ops draw => match slimOps ops ops.toList with
    | some l => match draw with
      | true => .drw (cutRegion ops.toList l).1 (cutRegion ops.toList l).2.1 (cutRegion ops.toList l).2.2 (pruneOf cr l).1 (pruneOf cr l).2
      | false => .reg l (pruneOf cr l).1 (pruneOf cr l).2
    | none => .bad
  | .seq a b => .seq (slimX cr a) (slimX cr b)
  | .cond c a b => .cond c (slimX cr a) (slimX cr b)
  | .block id b => .block id (slimX cr b)
  | .loop b => .loop (slimX cr b)
  | .scope b => .scp (slimX cr b)
  | .label _ => .skip
  | .exit id => .exit id
  | .ret => .ret
  | _ => .bad

def slim (c : Code) : AC := slimX (crossOf c) c

def pruneQ (p : CR) (ks : List Nat) (K : Env → Prop) : Env → Prop := fun e => K (prune p ks e)

/-- The walk. What is asked of a loop: a relation that holds at its head, with a number that each round lowers. -/
def awp (P : Program) : AC → (Exit → Env → Prop) → Env → Prop
  | .skip, Q, e => Q .normal e
  | .reg ops p ks, Q, e => arun P ops e (pruneQ p ks (Q .normal))
  | .drw a b c p ks, Q, e => xrun P c a b e (pruneQ p ks (Q .normal))
  | .seq a b, Q, e => awp P a (fun x e' => match x with | .normal => awp P b Q e' | x => Q x e') e
  | .cond c a b, Q, e => match opd e c with
    | .sv (.one (.bool t)) => (t = true → awp P a Q e) ∧ (t = false → awp P b Q e)
    | _ => False
  | .block id b, Q, e => awp P b (fun x e' => match x with | .exit id' => if id' = id then Q .normal e' else Q (.exit id') e' | x => Q x e') e
  | .loop b, Q, e => ∃ (I : Nat → Env → Prop) (n0 : Nat) (e0 : Env), I n0 e0 ∧ e.covers e0 ∧
      ∀ n e1, I n e1 → awp P b (fun x e' => match x with | .normal => ∃ n' e2, n' < n ∧ I n' e2 ∧ e'.covers e2 | x => Q x e') e1
  | .scp b, Q, e => awp P b (fun x e' => match x with | .goto _ => False | x => Q x e') e
  | .exit id, Q, e => Q (.exit id) e
  | .ret, Q, e => Q .ret e
  | .bad, _, _ => False

/-- What the text of a body must show. -/
def textOk (P : Program) (N : Nat) : Code → Bool
  | .region _ ops draw => match slimOps ops ops.toList with
    | some l => match draw with
      | true => P.follows .mixedOrders && staticB N ops.toList (cutRegion ops.toList l).1 (cutRegion ops.toList l).2.1 (cutRegion ops.toList l).2.2
      | false => l.all fun o => o.dst.all (· < N) && guardN N o.g
    | none => false
  | .seq a b => textOk P N a && textOk P N b
  | .cond _ a b => textOk P N a && textOk P N b
  | .block _ b => textOk P N b
  | .loop b => textOk P N b
  | .scope b => textOk P N b
  | .label _ => true
  | .skip => true
  | .exit _ => true
  | .ret => true
  | _ => false

theorem AVR.grow {w w' : World} {S S' : Nat → Prop} {env : Env} {f : Nat → Value} (hS : ∀ b, S b → S' b ∧ w'.heap[b]? = w.heap[b]?)
    (hroot : ∀ s x p v y, env.root s = some x → cat w (f s) x p = some (v, y) → cat w' (f s) x p = some (v, y)) :
    ∀ (av : AV) {v : Value} {r : List Nat}, AVR w S env f av v r → (∀ b ∈ r, w'.heap[b]? = w.heap[b]?) → AVR w' S' env f av v r
  | .no, _, _, h, _ => h
  | .undef, _, _, h, _ => h
  | .sv x, _, _, h, hr => CzS.keep hS h hr
  | .tup l, _, _, ⟨vs, h1, h2⟩, hr => ⟨vs, h1, h2.keep hS hr⟩
  | .al s p, v, r, h, _ => by
    obtain ⟨rfl, x, y, h1, h2⟩ := h
    exact ⟨rfl, x, y, h1, hroot _ _ _ _ _ h1 h2⟩
  | .pt s p i j, v, r, h, _ => by
    obtain ⟨rfl, x, u, y, el, ad, h1, h2, h3⟩ := h
    exact ⟨rfl, x, u, y, el, ad, h1, hroot _ _ _ _ _ h1 h2, h3⟩
  | .sub s p lo hi, v, r, h, _ => by
    obtain ⟨rfl, x, y, A, n, c, els, h1, h2, h3⟩ := h
    exact ⟨rfl, x, y, A, n, c, els, h1, hroot _ _ _ _ _ h1 h2, h3⟩
  | .bsl s p m, v, r, h, _ => by
    obtain ⟨rfl, x, u, y, el, ad, h1, h2, h3⟩ := h
    exact ⟨rfl, x, u, y, el, ad, h1, hroot _ _ _ _ _ h1 h2, h3⟩
  | .gd c a, v, r, h, _ => by
    obtain ⟨rfl, h1, h2⟩ := h
    exact ⟨rfl, fun hc => AVR.grow hS hroot a (h1 hc) (by simp), h2⟩

section
variable {P : Program} {N B : Nat} {w0 : World} {S0 : Nat → Prop} {env : Env} {a : Act} {w : World} {rows : Nat → List Nat} {next : Act → World → Prop} {Q : Exit → Act → World → Prop}

theorem SimR.grow (h : SimR N B w0 S0 env a w rows) {w' : World} (hb : Below w.heap.size w w') : SimR N B w0 S0 env a w' rows := by
  have hsz := hb.size
  have hbase := h.base
  have hS : ∀ b, SS B S0 w rows b → SS B S0 w' rows b ∧ w'.heap[b]? = w.heap[b]? := by
    intro b hs
    refine ⟨?_, hb.block b (hs.lt h.old h.base)⟩
    rcases hs with hs | ⟨h1, h2, h3⟩
    · exact .inl hs
    · exact .inr ⟨h1, by omega, h3⟩
  have hkeep : ∀ t, ∀ b ∈ rows t, w'.heap[b]? = w.heap[b]? := fun t b hbt => hb.block b (h.own t b hbt).2
  refine ⟨h.defers, h.size, h.below.trans (hb.mono hbase), by omega, h.old, fun t b hbt => ⟨(h.own t b hbt).1, by have := (h.own t b hbt).2; omega⟩, h.nodup, h.apart, fun t => ?_⟩
  exact AVR.grow hS (fun s x p v y hx hc => h.cat_keep (hkeep s) hx hc) _ (h.rel t) (hkeep t)

theorem Sim.prune (p : CR) (ks : List Nat) (h : Sim N B w0 S0 env a w) : Sim N B w0 S0 (Av.prune p ks env) a w := by
  obtain ⟨rows, h⟩ := h
  refine ⟨rows, h.defers, h.size, h.below, h.base, h.old, h.own, h.nodup, h.apart, fun t => ?_⟩
  rw [prune_get]
  split
  · trivial
  · rename_i hc
    simp only [Bool.or_eq_true, not_or, List.any_eq_true, not_exists, not_and] at hc
    refine AVR.refKeep (fun _ h => h) _ (h.rel t) (refOk_refs _ fun s hs => ?_)
    unfold Env.root
    rw [prune_get]
    have : ∀ x : AV, x.asOne ≠ none → x.refs = [] := by
      intro x
      cases x <;> simp [AV.asOne, AV.refs]
    split
    · rename_i h2
      simp only [Bool.or_eq_true, List.any_eq_true] at h2
      rcases h2 with h2 | ⟨u, hu, h2⟩
      · exact (hc.2 s hs h2).elim
      · cases hx : (env.get s).asOne with
        | none => rfl
        | some y =>
          rw [this _ (by rw [hx]; simp)] at hu
          cases hu
    · rfl

/-- THE WALK IS RIGHT. -/
theorem awp_ok (cr : List Nat) : ∀ (c : Code) (Q : Exit → Env → Prop) (Q' : Exit → Act → World → Prop) (env : Env) (a : Act) (w : World), textOk P N c = true → awp P (slimX cr c) Q env → Sim N B w0 S0 env a w →
    (∀ x env' a' w', Q x env' → Sim N B w0 S0 env' a' w' → Q' x a' w') → c.wp P Q' a w
  | .skip, Q, Q', env, a, w, _, hw, hs, hq => wp_skip (hq _ _ _ _ hw hs)
  | .region id ops draw, Q, Q', env, a, w, hf, hw, hs, hq => by
    simp only [slimX, textOk] at hf hw
    split at hf
    · rename_i l hl
      rw [hl] at hw
      cases draw with
      | false =>
        refine wp_region ?_
        have hlist := wpOps_eq_wpList (P := P) (ops := ops) (Q := Q') ops.toList 0 (by simp)
        have hr : List.range ops.size = List.range' 0 ops.toList.length := by simp [List.range_eq_range']
        rw [hr, hlist]
        exact arun_ok ops.toList l env a w hl hf hw hs (fun env' a' w' h1 h2 => hq _ _ _ _ h1 (h2.prune _ _))
      | true =>
        simp only [Bool.and_eq_true] at hf
        obtain ⟨rows, h⟩ := hs
        refine xrun_ok (static_of ?_ hf.2) hf.1 hw ⟨rows, h.grow ((Below.refl _ _).drew)⟩ (fun e2 a w h1 h2 => hq _ _ _ _ h1 (h2.prune _ _))
        rw [cutRegion_map]
        exact hl
    · cases hf
  | .seq c d, Q, Q', env, a, w, hf, hw, hs, hq => by
    simp only [textOk, Bool.and_eq_true] at hf
    refine wp_seq (awp_ok cr c _ _ env a w hf.1 hw hs ?_)
    intro x env' a' w' h1 h2
    cases x with
    | normal => exact awp_ok cr d Q Q' env' a' w' hf.2 h1 h2 hq
    | _ => exact hq _ _ _ _ h1 h2
  | .cond c d e, Q, Q', env, a, w, hf, hw, hs, hq => by
    simp only [textOk, Bool.and_eq_true] at hf
    simp only [slimX, awp] at hw
    obtain ⟨rows, h⟩ := hs
    split at hw
    · rename_i t ht
      have hx := h.opd_ok c
      rw [ht] at hx
      refine wp_cond (CzS.one_inv hx).bool_inv ?_
      cases t with
      | true => exact awp_ok cr d Q Q' env a w hf.1 (hw.1 rfl) ⟨rows, h⟩ hq
      | false => exact awp_ok cr e Q Q' env a w hf.2 (hw.2 rfl) ⟨rows, h⟩ hq
    · exact hw.elim
  | .block id c, Q, Q', env, a, w, hf, hw, hs, hq => by
    refine wp_block (awp_ok cr c _ _ env a w hf hw hs ?_)
    intro x env' a' w' h1 h2
    cases x with
    | exit id' =>
      simp only [Exit.inBlock]
      dsimp only at h1
      split
      · rename_i e; rw [if_pos e] at h1; exact hq _ _ _ _ h1 h2
      · rename_i e; rw [if_neg e] at h1; exact hq _ _ _ _ h1 h2
    | _ => exact hq _ _ _ _ h1 h2
  | .loop c, Q, Q', env, a, w, hf, hw, hs, hq => by
    obtain ⟨I, n0, e0, hI, hcov, hround⟩ := hw
    refine wp_loop_ghost (fun n a w => ∃ e, I n e ∧ Sim N B w0 S0 e a w) n0 ⟨e0, hI, hs.covers hcov⟩ ?_
    rintro n a w ⟨e, hIe, hse⟩
    refine awp_ok cr c _ _ e a w hf (hround n e hIe) hse ?_
    intro x env' a' w' h1 h2
    cases x with
    | normal =>
      obtain ⟨n', e2, hlt, hI2, hcov2⟩ := h1
      exact ⟨n', hlt, e2, hI2, h2.covers hcov2⟩
    | _ => exact hq _ _ _ _ h1 h2
  | .exit id, Q, Q', env, a, w, _, hw, hs, hq => wp_exit (hq _ _ _ _ hw hs)
  | .ret, Q, Q', env, a, w, _, hw, hs, hq => wp_ret (hq _ _ _ _ hw hs)
  | .rangeFunc _ _ _ _, _, _, _, _, _, hf, _, _, _ => by simp [textOk] at hf
  | .scope c, Q, Q', env, a, w, hf, hw, hs, hq => by
    refine wp_scope_straight (awp_ok cr c _ _ env a w hf hw hs ?_)
    intro x env' a' w' h1 h2
    cases x with
    | goto l => exact h1.elim
    | _ => exact hq _ _ _ _ h1 h2
  | .label _, Q, Q', env, a, w, _, hw, hs, hq => wp_label (hq _ _ _ _ hw hs)
  | .goto _, _, _, _, _, _, hf, _, _, _ => by simp [textOk] at hf
  | .refuse _, _, _, _, _, _, hf, _, _, _ => by simp [textOk] at hf
end

end Go.Av
