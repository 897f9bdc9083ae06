/- Operations of a region that change what was known before. -/
import Derived.Test.YtpnpnldabhmojaaAvU
set_option linter.unusedVariables false
set_option linter.unusedSimpArgs false
namespace Go.Av
open Go Go.RowKit

/-- What is new, and what leads to places that are no longer there. -/
structure Eff where
  w : Env
  k : List (Nat × Nat)

def killsOf (k : List (Nat × Nat)) (a : AV) : AV :=
  match k with
  | [] => a
  | (s, n) :: k => killsOf k (a.kill s n)

def Env.kills (k : List (Nat × Nat)) (e : Env) : Env :=
  match k with
  | [] => e
  | (s, n) :: k => Env.kills k (Env.kill s n e)

theorem Env.get_kills : ∀ (k : List (Nat × Nat)) (e : Env) (t : Nat), (Env.kills k e).get t = killsOf k (e.get t)
  | [], _, _ => rfl
  | (s, n) :: k, e, t => by
    simp only [Env.kills, killsOf]
    rw [Env.get_kills k, Env.get_kill]

def Eff.on (f : Eff) (e : Env) : Env := f.w ++ Env.kills f.k e

def hasKey (t : Nat) : Env → Bool
  | [] => false
  | (s, _) :: e => s == t || hasKey t e

theorem get_append (t : Nat) : ∀ (e r : Env), (e ++ r).get t = if hasKey t e then e.get t else r.get t
  | [], r => by simp [hasKey]
  | (s, a) :: e, r => by
    simp only [List.cons_append, Env.get, hasKey, Bool.or_eq_true, beq_iff_eq]
    by_cases h : s = t
    · simp [h]
    · rw [if_neg h, get_append t e r]
      simp [h]

theorem Eff.get_on (f : Eff) (e : Env) (t : Nat) : (f.on e).get t = if hasKey t f.w then Env.get f.w t else killsOf f.k (e.get t) := by
  unfold Eff.on
  rw [get_append, Env.get_kills]

def astoreE (P : Program) (env : Env) (t : TypeId) (x y : Operand) : Option (Prop × Nat × DV) :=
  match opd env x with
  | .pt s p i j => match opd env y with
    | .sv d => match sizeT P t, env.root s, env.at s p with
      | some n, some x0, some y0 => match y0.elAt i with
        | some el => some (d.cells.all DV.flat = true ∧ d.cells.length = n ∧ j + n ≤ el.length, s, setP x0 p (y0.put i j d.cells))
        | none => none
      | _, _, _ => none
    | _ => none
  | _ => none

def astoreOwnE (P : Program) (env : Env) (t : TypeId) (x y : Operand) : Option (Prop × Nat × Nat × DV) :=
  match opd env x with
  | .pt s p i j => match opd env y with
    | .al k [] => match sizeT P t, env.root s, env.at s p, env.root k with
      | some n, some x0, some y0, some xk => match y0.elAt i with
        | some el => some (n = 1 ∧ s ≠ k ∧ j + 1 ≤ el.length, k, s, setP x0 p (y0.put i j [xk]))
        | none => none
      | _, _, _, _ => none
    | _ => none
  | _ => none

theorem under_store {e' e : Env} (h : e'.under e) {P : Program} {t : TypeId} {x y : Operand} {ob : Prop} {s : Nat} {x' : DV} (he : astoreE P e' t x y = some (ob, s, x')) : astore P e t x y = some (ob, e.setRoot s x' 1) := by
  unfold astoreE at he
  split at he
  · rename_i s' p i j hx
    have hx' := under_opd_eq h hx (by simp)
    split at he
    · rename_i d hy
      have hy' := under_opd_eq h hy (by simp)
      split at he
      · rename_i n x0 y0 h1 h2 h3
        split at he
        · rename_i el h4
          simp only [Option.some.injEq, Prod.mk.injEq] at he
          obtain ⟨rfl, rfl, rfl⟩ := he
          simp only [astore, hx', hy', h1, under_root h h2, under_at h h3, h4]
        · cases he
      · cases he
    · cases he
  · cases he

theorem under_storeOwn {e' e : Env} (h : e'.under e) {P : Program} {t : TypeId} {x y : Operand} {ob : Prop} {k s : Nat} {x' : DV} (he : astoreOwnE P e' t x y = some (ob, k, s, x')) : astoreOwn P e t x y = some (ob, (e.setRoot k .dead 0).setRoot s x' 1) := by
  unfold astoreOwnE at he
  split at he
  · rename_i s' p i j hx
    have hx' := under_opd_eq h hx (by simp)
    split at he
    · rename_i d hy
      have hy' := under_opd_eq h hy (by simp)
      split at he
      · rename_i n x0 y0 xk h1 h2 h3 h5
        split at he
        · rename_i el h4
          simp only [Option.some.injEq, Prod.mk.injEq] at he
          obtain ⟨rfl, rfl, rfl, rfl⟩ := he
          simp only [astoreOwn, hx', hy', h1, under_root h h2, under_at h h3, under_root h h5, h4]
        · cases he
      · cases he
    · cases he
  · cases he

def bmk (P : Program) (v : Env) (o : Op) (dst : Option Nat) (R : Eff → Prop) : Prop :=
  match dst with
  | none => match o with
    | .store t x y => match astoreE P v t x y with
      | some (ob, s, x') => ob ∧ R ⟨[(s, .sv (.one x'))], [(s, 1)]⟩
      | none => match astoreOwnE P v t x y with
        | some (ob, k, s, x') => ob ∧ R ⟨[(s, .sv (.one x')), (k, .sv (.one .dead))], [(k, 0), (s, 1)]⟩
        | none => False
    | _ => False
  | some d => match apureA P v o with
    | some (ob, av) => ob ∧ R ⟨[(d, av.kill d 0)], [(d, 0)]⟩
    | none => match o with
      | .assign (.tmp t) => match v.get t with
        | .sv (.one x) => R ⟨[(d, .sv (.one x)), (t, .sv (.one .dead))], [(t, 0), (d, 0)]⟩
        | _ => False
      | .call c => match aappend P v (.call c) with
        | some (ob, _, x) => match appendOn v (.call c) with
          | none => ob ∧ R ⟨[(d, .sv (.one x))], [(d, 0)]⟩
          | some (s, []) => ob ∧ R ⟨[(d, .sv (.one x)), (s, .sv (.one .dead))], [(s, 0), (d, 0)]⟩
          | some _ => False
        | none => False
      | _ => False

theorem bmk_mono {P : Program} {v : Env} {o : Op} {dst : Option Nat} {R : Eff → Prop} (h : bmk P v o dst R) : ∃ f, R f ∧ bmk P v o dst (fun f' => f' = f) := by
  unfold bmk at *
  split at h
  · split at h
    · split at h
      · exact ⟨_, h.2, h.1, rfl⟩
      · split at h
        · exact ⟨_, h.2, h.1, rfl⟩
        · exact h.elim
    · exact h.elim
  · split at h
    · exact ⟨_, h.2, h.1, rfl⟩
    · split at h
      · split at h
        · exact ⟨_, h, rfl⟩
        · exact h.elim
      · split at h
        · split at h
          · exact ⟨_, h.2, h.1, rfl⟩
          · exact ⟨_, h.2, h.1, rfl⟩
          · exact h.elim
        · exact h.elim
      · exact h.elim

theorem append_root {P : Program} {env : Env} {o : Op} {r : Prop × Env × DV} {s : Nat} {p : List (Nat × Nat)} (h : aappend P env o = some r) (hon : appendOn env o = some (s, p)) : ∃ y, env.root s = some y := by
  unfold aappend at h
  split at h
  · rename_i c
    split at h
    · rename_i X Y t t' hcal hargs htys
      simp only [appendOn, hargs] at hon
      split at h
      · split at h
        · split at h
          · split at h
            · rename_i hX
              rw [hX] at hon
              cases hon
            · rename_i s' p' hX
              rw [hX] at hon
              simp only [AV.given, Option.some.injEq, Prod.mk.injEq] at hon
              obtain ⟨rfl, rfl⟩ := hon
              split at h
              · rename_i hat
                unfold Env.at at hat
                split at hat
                · rename_i y hy
                  exact ⟨y, hy⟩
                · cases hat
              · cases h
            · cases h
          · cases h
        · cases h
      · cases h
    · cases h
  · cases h

theorem amk_root {P : Program} {v : Env} {o : Op} {av : AV} {s : Nat} {p : List (Nat × Nat)} (h : amk P v o (fun av' c' => av' = av ∧ c' = some (s, p))) : ∃ y, v.root s = some y := by
  unfold amk at h
  split at h
  · cases h.2.2
  · split at h
    · split at h
      · cases h.2
      · exact h.elim
    · split at h
      · cases h.2
      · exact h.elim
    · split at h
      · cases h.2
      · exact h.elim
    · split at h
      · cases h.2.2
      · exact h.elim
    · split at h
      · rename_i hx
        exact append_root hx h.2.2
      · split at h
        · obtain ⟨r, _, _, _, h⟩ := h
          cases h
        · exact h.elim
    · exact h.elim

theorem gmk_root {P : Program} {v : Env} {o : SOp} {av : AV} {s : Nat} {p : List (Nat × Nat)} (h : gmk P v o (fun av' c' => av' = av ∧ c' = some (s, p))) : ∃ y, v.root s = some y := by
  unfold gmk at h
  split at h
  · exact amk_root h
  · split at h
    · split at h
      · cases h.2.2
      · split at h
        · split at h
          · cases h.2.2
          · exact h.elim
        · split at h
          · obtain ⟨r, _, _, h⟩ := h
            cases h
          · exact h.elim
        · exact h.elim
    · exact h.elim

theorem AV.kill_noop (s n : Nat) : ∀ (a : AV), s ∉ a.refs → a.kill s n = a
  | .gd _ a, h => by simp only [AV.kill]; rw [AV.kill_noop s n a h]
  | .al s' p, h => by simp only [AV.refs, List.mem_singleton] at h; simp only [AV.kill]; rw [if_neg (fun hc => h hc.1.symm)]
  | .pt s' p _ _, h => by simp only [AV.refs, List.mem_singleton] at h; simp only [AV.kill]; rw [if_neg (fun hc => h hc.1.symm)]
  | .sub s' p _ _, h => by simp only [AV.refs, List.mem_singleton] at h; simp only [AV.kill]; rw [if_neg (fun hc => h hc.1.symm)]
  | .bsl s' p _, h => by simp only [AV.refs, List.mem_singleton] at h; simp only [AV.kill]; rw [if_neg (fun hc => h hc.1.symm)]
  | .no, _ => rfl
  | .undef, _ => rfl
  | .sv _, _ => rfl
  | .tup _, _ => rfl

theorem AV.kill_refs (s n : Nat) : ∀ (a : AV), ∀ x ∈ (a.kill s n).refs, x ∈ a.refs
  | .gd _ a, x, h => AV.kill_refs s n a x h
  | .al s' p, x, h => by simp only [AV.kill] at h; split at h; cases h; exact h
  | .pt s' p _ _, x, h => by simp only [AV.kill] at h; split at h; cases h; exact h
  | .sub s' p _ _, x, h => by simp only [AV.kill] at h; split at h; cases h; exact h
  | .bsl s' p _, x, h => by simp only [AV.kill] at h; split at h; cases h; exact h
  | .no, x, h => h
  | .undef, x, h => h
  | .sv _, x, h => h
  | .tup _, x, h => h

theorem killsOf_refs : ∀ (k : List (Nat × Nat)) (a : AV), ∀ x ∈ (killsOf k a).refs, x ∈ a.refs
  | [], _, x, h => h
  | (s, n) :: k, a, x, h => AV.kill_refs s n a x (killsOf_refs k _ x h)

section
variable {P : Program} {N B : Nat} {w0 : World} {S0 : Nat → Prop} {env : Env} {a : Act} {w : World} {rows : Nat → List Nat} {next : Act → World → Prop} {Q : Exit → Act → World → Prop}

theorem bmk_ok (h : SimR N B w0 S0 env a w rows) {ts : List Nat} {o : Oper} {f : Eff} (hk : bmk P (view env ts) o.op o.dst (fun f' => f' = f)) (hd : o.dst.all (· < N) = true) (hn : ∀ a' w', Sim N B w0 S0 (f.on env) a' w' → next a' w') : o.wp P a w next Q := by
  have hv := h.view ts
  have hu := view_under env ts
  unfold bmk at hk
  split at hk
  · rename_i hdst
    split at hk
    · rename_i t x y ho
      split at hk
      · rename_i ob s x' hx
        obtain ⟨hob, rfl⟩ := hk
        exact astore_ok h ho (under_store hu hx) hob hdst (fun w' hs => hn _ _ hs)
      · split at hk
        · rename_i ob k s x' hx
          obtain ⟨hob, rfl⟩ := hk
          refine astoreOwn_ok h ho (under_storeOwn hu hx) hob hdst (fun w' hs => hn _ _ (Sim.congr (fun t => ?_) hs))
          simp only [Eff.get_on, hasKey, Env.get_setRoot, Env.get, killsOf, Bool.or_false, Bool.or_eq_true, beq_iff_eq]
          by_cases h1 : s = t
          · simp [h1]
          · by_cases h2 : k = t <;> simp [h1, h2, AV.kill]
        · exact hk.elim
    · exact hk.elim
  · rename_i d hdst
    have hdN : d < N := by rw [hdst] at hd; simpa using hd
    split at hk
    · rename_i ob av hp
      obtain ⟨hob, rfl⟩ := hk
      obtain ⟨u, hy, hr⟩ := apureA_ok hv hp hob
      exact wp_pure h ⟨u, hy, AVR.lift hu _ hr⟩ hdN hdst (fun a' w' hs => hn _ _ hs)
    · split at hk
      · rename_i t ho
        have hrun : (execOp a.eval o).run P w = .ok (.value (Act.f a t)) w := by simp [execOp, ho, Act.eval, Act.f]
        split at hk
        · rename_i x hx
          subst hk
          have hx' : env.root t = some x := by
            have := under_root hu (s := t) (x := x) (by rw [Env.root, hx]; rfl)
            exact this
          refine wp_value hrun ?_
          rw [hdst]
          refine hn _ _ (Sim.congr (fun u => ?_) (h.takeOver hdN hx'))
          simp only [Eff.get_on, hasKey, Env.get_setRoot, Env.get_put, Env.get, killsOf, Bool.or_false, Bool.or_eq_true, beq_iff_eq]
          by_cases h1 : d = u
          · simp [h1, AV.kill]
          · by_cases h2 : t = u <;> simp [h1, h2, AV.kill]
        · exact hk.elim
      · rename_i c ho
        split at hk
        · rename_i ob e2 x hx
          rw [← ho] at hx hk
          obtain ⟨h1, h2, h3⟩ := under_append hu hx
          split at hk
          · rename_i hon
            obtain ⟨hob, rfl⟩ := hk
            rw [hon] at h3
            refine aappend_ok h h3 hob hdN hdst (fun a' w' hs => hn _ _ (Sim.congr (fun u => ?_) hs))
            simp only [Eff.get_on, hasKey, Env.get_put, Env.get, killsOf, Env.loses, Bool.or_false, beq_iff_eq]
            by_cases h1 : d = u <;> simp [h1, AV.kill]
          · rename_i s hon
            obtain ⟨hob, rfl⟩ := hk
            rw [hon] at h3
            have hroot : ∃ y, env.root s = some y := append_root h3 (h2.trans hon)
            obtain ⟨y, hy⟩ := hroot
            refine aappend_ok h h3 hob hdN hdst (fun a' w' hs => hn _ _ (Sim.congr (fun u => ?_) hs))
            simp only [Eff.get_on, hasKey, Env.get_put, Env.get_setRoot, Env.get, killsOf, Env.loses, Env.give, hy, setP, List.isEmpty_nil, if_true, Bool.or_false, Bool.or_eq_true, beq_iff_eq]
            by_cases h1 : d = u
            · simp [h1, AV.kill]
            · by_cases h2 : s = u <;> simp [h1, h2, AV.kill]
          · exact hk.elim
        · exact hk.elim
      · exact hk.elim
end

end Go.Av
