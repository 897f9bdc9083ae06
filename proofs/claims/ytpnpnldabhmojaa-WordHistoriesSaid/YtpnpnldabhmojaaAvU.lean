/- Single operations of a region that draws its order. -/
import Derived.Test.YtpnpnldabhmojaaAvT
set_option linter.unusedVariables false
set_option linter.unusedSimpArgs false
namespace Go.Av
open Go Go.RowKit

/-- What an operation makes, and what it takes for that. -/
def amk (P : Program) (v : Env) (o : Op) (R : AV → Option (Nat × List (Nat × Nat)) → Prop) : Prop :=
  match apureA P v o with
  | some (ob, av) => ob ∧ R av none
  | none => match o with
    | .box _ _ => match abox v o P with
      | some l => R (.sv (.one (.bx l))) none
      | none => False
    | .alloc _ => match abox v o P with
      | some l => R (.sv (.one (.bx l))) none
      | none => False
    | .buildSlice t len parts => match abuildSlice P v t len parts with
      | some x => R (.sv (.one x)) none
      | none => False
    | .makeSlice t len cap => match amake P v t len cap with
      | some (ob, x) => ob ∧ R (.sv (.one x)) none
      | none => False
    | .call c => match aappend P v (.call c) with
      | some (ob, _, x) => ob ∧ R (.sv (.one x)) (appendOn v (.call c))
      | none => match acall v (.call c) with
        | some (f, ys, own) => ∃ r, Impl P f ys r ∧ (own = true → r.Closed) ∧ R r.av none
        | none => False
    | _ => False

/-- The same, under a guard: what is made is not owned. -/
def gmk (P : Program) (v : Env) (o : SOp) (R : AV → Option (Nat × List (Nat × Nat)) → Prop) : Prop :=
  match o.g with
  | none => amk P v o.op R
  | some (s, want) => match (v.get s).wanted want with
    | some c => match apureA P (strip v (strTmps o.op)).2 o.op with
      | some (ob, av) => (c = true → (strip v (strTmps o.op)).1 ∧ ob) ∧ R (.gd c av) none
      | none => match o.op with
        | .buildSlice t len parts => match abuildSlice P (strip v (strTmps o.op)).2 t len parts with
          | some x => (c = true → (strip v (strTmps o.op)).1) ∧ R (.gd c (.sv (.one x.frz))) none
          | none => False
        | .call cl => match acall (strip v (strTmps o.op)).2 (.call cl) with
          | some (f, ys, own) => ∃ r, (c = true → (strip v (strTmps o.op)).1 ∧ Impl P f ys r ∧ (own = true → r.Closed)) ∧ R (.gd c r.frz.av) none
          | none => False
        | _ => False
    | none => False

theorem amk_mono {P : Program} {v : Env} {o : Op} {R R' : AV → Option (Nat × List (Nat × Nat)) → Prop} (h : amk P v o R) : ∃ av c, R av c ∧ amk P v o (fun av' c' => av' = av ∧ c' = c) := by
  unfold amk at *
  split at h
  · exact ⟨_, _, h.2, h.1, rfl, rfl⟩
  · split at h
    · split at h
      · exact ⟨_, _, h, rfl, rfl⟩
      · exact h.elim
    · split at h
      · exact ⟨_, _, h, rfl, rfl⟩
      · exact h.elim
    · split at h
      · exact ⟨_, _, h, rfl, rfl⟩
      · exact h.elim
    · split at h
      · exact ⟨_, _, h.2, h.1, rfl, rfl⟩
      · exact h.elim
    · split at h
      · exact ⟨_, _, h.2, h.1, rfl, rfl⟩
      · split at h
        · obtain ⟨r, h1, h2, h3⟩ := h
          exact ⟨_, _, h3, r, h1, h2, rfl, rfl⟩
        · exact h.elim
    · exact h.elim

theorem gmk_mono {P : Program} {v : Env} {o : SOp} {R : AV → Option (Nat × List (Nat × Nat)) → Prop} (h : gmk P v o R) : ∃ av c, R av c ∧ gmk P v o (fun av' c' => av' = av ∧ c' = c) := by
  unfold gmk at *
  split at h
  · exact amk_mono (R' := R) h
  · split at h
    · split at h
      · exact ⟨_, _, h.2, h.1, rfl, rfl⟩
      · split at h
        · split at h
          · exact ⟨_, _, h.2, h.1, rfl, rfl⟩
          · exact h.elim
        · split at h
          · obtain ⟨r, h1, h2⟩ := h
            exact ⟨_, _, h2, r, h1, rfl, rfl⟩
          · exact h.elim
        · exact h.elim
    · exact h.elim

section
variable {P : Program} {N B : Nat} {w0 : World} {S0 : Nat → Prop} {env : Env} {a : Act} {w : World} {rows : Nat → List Nat} {next : Act → World → Prop} {Q : Exit → Act → World → Prop}

theorem amk_ok (h : SimR N B w0 S0 env a w rows) {v : Env} (hu : v.under env) (hv : SimR N B w0 S0 v a w rows) {o : Oper} {av : AV} {c : Option (Nat × List (Nat × Nat))} (hk : amk P v o.op (fun av' c' => av' = av ∧ c' = c))
    {d : Nat} (hd : d < N) (hdst : o.dst = some d) (hn : ∀ a' w', Sim N B w0 S0 ((env.loses c).put d av) a' w' → next a' w') : o.wp P a w next Q := by
  unfold amk at hk
  split at hk
  · rename_i ob av' hp
    obtain ⟨hob, rfl, rfl⟩ := hk
    obtain ⟨u, hy, hr⟩ := apureA_ok hv hp hob
    exact wp_pure h ⟨u, hy, AVR.lift hu _ hr⟩ hd hdst hn
  · split at hk
    · rename_i T x ho
      split at hk
      · rename_i l hl
        obtain ⟨rfl, rfl⟩ := hk
        exact abox_ok h (under_box hu hl) hd hdst hn
      · exact hk.elim
    · rename_i T ho
      split at hk
      · rename_i l hl
        obtain ⟨rfl, rfl⟩ := hk
        exact abox_ok h (under_box hu hl) hd hdst hn
      · exact hk.elim
    · rename_i t len parts ho
      split at hk
      · rename_i x hx
        obtain ⟨rfl, rfl⟩ := hk
        exact abuildSlice_ok h ho (under_buildSlice hu hx) hd hdst hn
      · exact hk.elim
    · rename_i t len cap ho
      split at hk
      · rename_i ob x hx
        obtain ⟨hob, rfl, rfl⟩ := hk
        exact amake_ok h ho (under_make hu hx) hob hd hdst hn
      · exact hk.elim
    · rename_i cl ho
      split at hk
      · rename_i ob e2 x hx
        obtain ⟨hob, rfl, rfl⟩ := hk
        rw [← ho] at hx hn
        obtain ⟨h1, h2, h3⟩ := under_append hu hx
        exact aappend_ok h h3 hob hd hdst hn
      · split at hk
        · rename_i f ys own hx
          rw [← ho] at hx
          obtain ⟨r, hf, hc, rfl, rfl⟩ := hk
          exact call_ok h (under_call hu hx) hf hc hd hdst hn
        · exact hk.elim
    · exact hk.elim

theorem gmk_ok {env : Env} {rows : Nat → List Nat} (h : SimR N B w0 S0 env a w rows) {ops : Array Oper} {o : Oper} {g : Option (Nat × Bool)} (hg : slimGuard ops o.guard = some g) (hgN : guardN N g = true) {ts : List Nat} {av : AV} {c : Option (Nat × List (Nat × Nat))}
    (hk : gmk P (view env ts) { dst := o.dst, op := o.op, g := g } (fun av' c' => av' = av ∧ c' = c)) {d : Nat} (hd : d < N) (hdst : o.dst = some d) (hn : ∀ a' w', Sim N B w0 S0 ((env.loses c).put d av) a' w' → next a' w') :
    if Region.wanted o (yielded ops a.tmps) then o.wp P a w next Q else next (a.put o.dst Go.undef) w := by
  have hv := h.view ts
  have hu := view_under env ts
  unfold slimGuard at hg
  split at hg
  · rename_i hnone
    injection hg with hg
    subst hg
    have hw : Region.wanted o (yielded ops a.tmps) = true := by simp [Region.wanted, hnone]
    rw [if_pos hw]
    exact amk_ok h hu hv hk hd hdst hn
  · rename_i j want hsome
    split at hg
    · rename_i s hj
      injection hg with hg
      subst hg
      have hsN : s < N := by simpa [guardN] using hgN
      simp only [gmk] at hk
      split at hk
      · rename_i cnd hcnd
        rw [wanted_ok hv hsome hj hsN hcnd]
        have hstrip : (strip (view env ts) (strTmps o.op)).1 → cnd = true → ∀ t, (strip (view env ts) (strTmps o.op)).2.get t = (view env ts).get t := by
          intro hs _ t
          rcases strip_get (strTmps o.op) hs t with h1 | ⟨c', b, h1, h2, h3⟩
          · exact h1
          · rw [h1, h3, h2]
        split at hk
        · rename_i ob av' hp
          obtain ⟨hk1, rfl, rfl⟩ := hk
          cases cnd with
          | true =>
            rw [if_pos rfl]
            obtain ⟨hst, hob⟩ := hk1 rfl
            have hs' := (hv.strip hst).1
            obtain ⟨u, hy, hr⟩ := apureA_ok hs' hp hob
            refine wp_pure (av := .gd true av') h ⟨u, hy, rfl, fun _ => ?_, fun hf => by cases hf⟩ hd hdst hn
            refine AVR.lift (fun t => ?_) _ hr
            rw [hstrip hst rfl t]
            exact hu t
          | false =>
            rw [if_neg (by simp), hdst]
            exact hn _ _ ⟨_, h.put hd (Below.refl _ _) (r := []) (by simp) (by simp) (av := .gd false av') ⟨rfl, fun hf => (by cases hf), fun _ => rfl⟩⟩
        · split at hk
          · rename_i t len parts ho
            split at hk
            · rename_i x hx
              obtain ⟨hk1, rfl, rfl⟩ := hk
              cases cnd with
              | true =>
                rw [if_pos rfl]
                have hst := hk1 rfl
                refine abuildSlice_ok h ho (under_buildSlice (fun t => ?_) hx) hd hdst (fun a' w' hs => hn a' w' (Sim.guard (r := .one (.one x)) hs))
                rw [hstrip hst rfl t]
                exact hu t
              | false =>
                rw [if_neg (by simp), hdst]
                exact hn _ _ ⟨_, h.put hd (Below.refl _ _) (r := []) (by simp) (by simp) (av := .gd false _) ⟨rfl, fun hf => (by cases hf), fun _ => rfl⟩⟩
            · exact hk.elim
          · rename_i cl ho
            split at hk
            · rename_i f ys own hx
              obtain ⟨r, hk1, rfl, rfl⟩ := hk
              cases cnd with
              | true =>
                rw [if_pos rfl]
                obtain ⟨hst, hf, hc⟩ := hk1 rfl
                have ho' : o.op = .call cl := ho
                rw [← ho'] at hx
                refine call_ok h (under_call (fun t => ?_) hx) hf hc hd hdst (fun a' w' hs => hn a' w' (Sim.guard hs))
                rw [hstrip hst rfl t]
                exact hu t
              | false =>
                rw [if_neg (by simp), hdst]
                exact hn _ _ ⟨_, h.put hd (Below.refl _ _) (r := []) (by simp) (by simp) (av := .gd false _) ⟨rfl, fun hf => (by cases hf), fun _ => rfl⟩⟩
            · exact hk.elim
          · exact hk.elim
      · exact hk.elim
    · cases hg
end

end Go.Av
