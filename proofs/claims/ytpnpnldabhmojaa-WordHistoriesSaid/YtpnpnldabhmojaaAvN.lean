/- A whole function's code, walked on what is known of its slots. -/
import Derived.Test.YtpnpnldabhmojaaAvM
set_option linter.unusedVariables false
set_option linter.unusedSimpArgs false
namespace Go.Av
open Go Go.RowKit

/-- An operation without its place in the text. The guard names the slot that decides. -/
structure SOp where
  dst : Option Nat
  op : Op
  g : Option (Nat × Bool)

def slimGuard (ops : Array Oper) : Option (Nat × Bool) → Option (Option (Nat × Bool))
  | none => some none
  | some (j, want) => match ((ops[j]?).bind (·.dst)) with
    | some d => some (some (d, want))
    | none => none

def slimOps (ops : Array Oper) : List Oper → Option (List SOp)
  | [] => some []
  | o :: os => match slimGuard ops o.guard, slimOps ops os with
    | some g, some l => some ({ dst := o.dst, op := o.op, g := g } :: l)
    | _, _ => none

def guardN (N : Nat) : Option (Nat × Bool) → Bool
  | none => true
  | some (s, _) => decide (s < N)

/-- A slice compared with nil: its elements, and whether the answer is for equal. -/
def nilCmp (P : Program) (env : Env) (op : BinOp) (t : TypeId) (x y : Operand) : Option (List (List DV) × Bool) :=
  match opd env y with
  | .sv (.one .nil) => match elT P t with
    | some _ => match sliceOf env (opd env x) with
      | some els => match op with
        | .eql => some (els, true)
        | .neq => some (els, false)
        | _ => none
      | none => none
    | none => none
  | _ => none

def takesC (P : Program) (env : Env) (o : Op) (d : Nat) (K : Env → Prop) : Prop :=
  match acallC env o with
  | some (f, s, x, ys) => ∃ y, ImplC P f x ys y ∧ K ((env.setRoot s .dead 0).put d (.sv (.one y)))
  | none => False

/-- Operations that change more than their own slot, or that call. -/
def aeff (P : Program) (env : Env) (o : Op) (dst : Option Nat) (K : Env → Prop) : Prop :=
  match dst with
  | none => match o with
    | .store t x y => match astore P env t x y with
      | some (ob, env') => ob ∧ K env'
      | none => match astoreOwn P env t x y with
        | some (ob, env') => ob ∧ K env'
        | none => False
    | _ => False
  | some d => match o with
    | .binOp op t x y _ => match nilCmp P env op t x y with
      | some (els, eq) => ∀ u : Bool, (els ≠ [] → u = false) → K (env.put d (.sv (.one (.bool (u == eq)))))
      | none => False
    | .box _ _ => match abox env o P with
      | some l => K (env.put d (.sv (.one (.bx l))))
      | none => False
    | .alloc _ => match abox env o P with
      | some l => K (env.put d (.sv (.one (.bx l))))
      | none => False
    | .assign (.tmp t) => match env.get t with
      | .sv (.one x) => K ((env.setRoot t .dead 0).put d (.sv (.one x)))
      | .sub s [] lo hi => match env.root s with
        | some (.ow z els) => s = d ∧ (∀ e ∈ els, e.length = z) ∧ K (env.put d (.sv (.one (.ow z ((els.drop lo).take (hi - lo))))))
        | _ => False
      | _ => False
    | .move (.tmp t) => match env.get t with
      | .tup l => t ≠ d ∧ K (Env.put ((t, .no) :: env) d (.tup l))
      | _ => False
    | .extract (.tmp t) i => match env.get t with
      | .tup l => match l[i]? with
        | some (.one x) => t ≠ d ∧ K (Env.put ((t, .tup (l.set i (.one .dead))) :: env) d (.sv (.one x)))
        | _ => False
      | _ => False
    | .buildSlice t len parts => match abuildSlice P env t len parts with
      | some x => K (env.put d (.sv (.one x)))
      | none => match abuildSlice P (frzOps env (parts.toList.map (·.2))) t len parts with
        | some x => K ((frzOps env (parts.toList.map (·.2))).put d (.sv (.one x)))
        | none => False
    | .makeSlice t len cap => match amake P env t len cap with
      | some (ob, x) => ob ∧ K (env.put d (.sv (.one x)))
      | none => False
    | .call c => match aappend P env (.call c) with
      | some (ob, env', x) => ob ∧ K (env'.put d (.sv (.one x)))
      | none => match acall env (.call c) with
        | some (f, ys, own) => (∃ r, Impl P f ys r ∧ (own = true → r.Closed) ∧ K (env.put d r.av)) ∨ takesC P env (.call c) d K
        | none => False
    | _ => False

def apureA (P : Program) (env : Env) (o : Op) : Option (Prop × AV) :=
  match apure P env o with
  | some x => some x
  | none => apure2 P env o

/-- Is an operation wanted, by what its guard's slot is known as? -/
def AV.wanted (want : Bool) : AV → Option Bool
  | .sv (.one (.bool b)) => some (b == want)
  | .undef => some false
  | .gd c (.sv (.one (.bool b))) => some (c && (b == want))
  | _ => none

def tmpsL : List Operand → List Nat
  | [] => []
  | .tmp t :: xs => t :: tmpsL xs
  | _ :: xs => tmpsL xs

def opTmps : Op → List Nat
  | .move x => tmpsL [x]
  | .assign x => tmpsL [x]
  | .pick c x y => tmpsL [c, x, y]
  | .load _ x => tmpsL [x]
  | .fieldAddr _ x _ => tmpsL [x]
  | .indexAddr _ x i => tmpsL [x, i]
  | .binOp _ _ x y _ => tmpsL [x, y]
  | .unOp _ _ x => tmpsL [x]
  | .convert _ _ x => tmpsL [x]
  | .extract x _ => tmpsL [x]
  | .slice _ x lo hi _ => tmpsL (x :: (lo.toList ++ hi.toList))
  | .field _ x _ => tmpsL [x]
  | .call c => tmpsL c.args.toList
  | .box _ x => tmpsL [x]
  | .build _ ps => tmpsL (ps.toList.map (·.2))
  | .buildSlice _ _ ps => tmpsL (ps.toList.map (·.2))
  | .store _ x y => tmpsL [x, y]
  | .makeSlice _ x y => tmpsL [x, y]
  | _ => []

/-- The slots that must hold something where an operation runs. (Of a choice's two arms one alone must.) -/
def strTmps : Op → List Nat
  | .pick c _ _ => tmpsL [c]
  | o => opTmps o

/-- What is known under a condition, taken as known: the condition, and the slots then. -/
def strip (env : Env) : List Nat → Prop × Env
  | [] => (True, env)
  | t :: ts => match env.get t with
    | .gd c a => (c = true ∧ (strip env ts).1, (t, .gd true a) :: (strip env ts).2)
    | _ => strip env ts

def astep (P : Program) (o : SOp) (env : Env) (K : Env → Prop) : Prop :=
  match o.g with
  | none => match apureA P env o.op with
    | some (ob, av) => match o.dst with
      | some d => ob ∧ K (env.put d av)
      | none => False
    | none => aeff P env o.op o.dst K
  | some (s, want) => match (env.get s).wanted want with
    | some c => match o.dst with
      | some d => match apureA P (strip env (strTmps o.op)).2 o.op with
        | some (ob, av) => (c = true → (strip env (strTmps o.op)).1 ∧ ob) ∧ K (env.put d (.gd c av))
        | none => (c = true → aeff P env o.op o.dst K) ∧ (c = false → K (env.put d .undef))
      | none => (c = true → aeff P env o.op o.dst K) ∧ (c = false → K env)
    | none => False

def arun (P : Program) : List SOp → Env → (Env → Prop) → Prop
  | [], env, K => K env
  | o :: os, env, K => astep P o env fun env' => arun P os env' K

/-- One thing may be known as another: less is known. -/
def AV.le : AV → AV → Prop
  | _, .no => True
  | .sv (.one .nil), .sv (.one (.ow _ els)) => els = []
  | .sv (.one .nil), .sv (.one (.sl els)) => els = []
  | a, b => a = b

/-- What leads to a slot is of use only if that slot is known as it was. -/
def AV.refOk (e e' : Env) : AV → Prop
  | .al s _ => e'.root s = e.root s
  | .pt s _ _ _ => e'.root s = e.root s
  | .sub s _ _ _ => e'.root s = e.root s
  | .bsl s _ _ => e'.root s = e.root s
  | .gd _ a => AV.refOk e e' a
  | _ => True

/-- All that l says, e says too. -/
def Env.coversL (e e' : Env) : Env → Prop
  | [] => True
  | (t, a) :: l => (e.get t).le a ∧ a.refOk e e' ∧ Env.coversL e e' l

def Env.covers (e e' : Env) : Prop := Env.coversL e e' e'

theorem Env.coversL_get {e e' : Env} : ∀ {l : Env}, Env.coversL e e' l → ∀ t, (e.get t).le (l.get t) ∧ (l.get t).refOk e e'
  | [], _, t => by
    simp only [Env.get, AV.refOk, and_true]
    cases e.get t <;> exact trivial
  | (s, a) :: l, h, t => by
    obtain ⟨h1, h2, h3⟩ := h
    simp only [Env.get]
    split
    · rename_i e
      subst e
      exact ⟨h1, h2⟩
    · exact Env.coversL_get h3 t

section
variable {N B : Nat} {w0 : World} {S0 : Nat → Prop} {env env' : Env} {a : Act} {w : World} {rows : Nat → List Nat}

theorem AVR.refKeep {S S' : Nat → Prop} {f : Nat → Value} (hS : ∀ b, S b → S' b) : ∀ (av : AV) {v : Value} {r : List Nat}, AVR w S env f av v r → av.refOk env env' → AVR w S' env' f av v r
  | .no, _, _, h, _ => h
  | .undef, _, _, h, _ => h
  | .sv x, _, _, h, _ => CzS.keep (fun b hb => ⟨hS b hb, rfl⟩) h (fun _ _ => rfl)
  | .tup l, _, _, ⟨vs, h1, h2⟩, _ => ⟨vs, h1, h2.keep (fun b hb => ⟨hS b hb, rfl⟩) (fun _ _ => rfl)⟩
  | .al s p, v, r, h, hk => by
    obtain ⟨rfl, x, y, h1, h2⟩ := h
    exact ⟨rfl, x, y, hk.trans h1, h2⟩
  | .pt s p i j, v, r, h, hk => by
    obtain ⟨rfl, x, u, y, el, ad, h1, h2⟩ := h
    exact ⟨rfl, x, u, y, el, ad, hk.trans h1, h2⟩
  | .sub s p lo hi, v, r, h, hk => by
    obtain ⟨rfl, x, y, A, n, c, els, h1, h2⟩ := h
    exact ⟨rfl, x, y, A, n, c, els, hk.trans h1, h2⟩
  | .bsl s p m, v, r, h, hk => by
    obtain ⟨rfl, x, u, y, el, ad, h1, h2⟩ := h
    exact ⟨rfl, x, u, y, el, ad, hk.trans h1, h2⟩
  | .gd c a, v, r, h, hk => by
    obtain ⟨rfl, h1, h2⟩ := h
    exact ⟨rfl, fun hc => AVR.refKeep hS a (h1 hc) hk, h2⟩

theorem Sim.covers (h : Sim N B w0 S0 env a w) (hc : env.covers env') : Sim N B w0 S0 env' a w := by
  obtain ⟨rows, h⟩ := h
  have hsub : ∀ t b, b ∈ (match env'.get t with | .no => [] | _ => rows t) → b ∈ rows t := by
    intro t b hb
    split at hb
    · cases hb
    · exact hb
  have hS : ∀ b, SS B S0 w rows b → SS B S0 w (fun t => match env'.get t with | .no => [] | _ => rows t) b := by
    intro b hb
    rcases hb with hb | ⟨h1, h2, h3⟩
    · exact .inl hb
    · exact .inr ⟨h1, h2, fun t ht => h3 t (hsub t b ht)⟩
  refine ⟨fun t => match env'.get t with | .no => [] | _ => rows t, h.defers, h.size, h.below, h.base, h.old, fun t b hb => h.own t b (hsub t b hb), ?_, fun t t' hne b hb hb' => h.apart t t' hne b (hsub t b hb) (hsub t' b hb'), ?_⟩
  · intro t
    split
    · exact List.nodup_nil
    · exact h.nodup t
  · intro t
    obtain ⟨h1, h2⟩ := Env.coversL_get hc t
    have hr := h.rel t
    generalize env.get t = av at *
    generalize env'.get t = av' at *
    generalize Act.f a t = v at *
    generalize rows t = rs at *
    unfold AV.le at h1
    split at h1
    · trivial
    · subst h1
      have hr := CzS.one_inv hr
      cases hr
      exact .one _ _ _ (.owNil _)
    · subst h1
      have hr := CzS.one_inv hr
      cases hr
      exact .one _ _ _ (.shNil _ _)
    · subst h1
      cases av with
      | no => trivial
      | _ => exact AVR.refKeep hS _ hr h2
end


theorem AV.refOk_of {env env' : Env} (hroot : ∀ s, env'.root s = env.root s) : ∀ (a : AV), a.refOk env env'
  | .gd _ a => AV.refOk_of hroot a
  | .al s _ => hroot s
  | .pt s _ _ _ => hroot s
  | .sub s _ _ _ => hroot s
  | .bsl s _ _ => hroot s
  | .no => trivial
  | .undef => trivial
  | .sv _ => trivial
  | .tup _ => trivial

section
variable {P : Program} {N B : Nat} {w0 : World} {S0 : Nat → Prop} {env env' : Env} {a : Act} {w : World} {rows : Nat → List Nat} {next : Act → World → Prop} {Q : Exit → Act → World → Prop}

theorem Sim.congr (hg : ∀ t, env.get t = env'.get t) (h : Sim N B w0 S0 env a w) : Sim N B w0 S0 env' a w := by
  obtain ⟨rows, h⟩ := h
  have hroot : ∀ s, env'.root s = env.root s := fun s => by simp only [Env.root, hg]
  refine ⟨rows, h.defers, h.size, h.below, h.base, h.old, h.own, h.nodup, h.apart, fun t => ?_⟩
  rw [← hg t]
  exact AVR.refKeep (fun _ h => h) _ (h.rel t) (AV.refOk_of hroot _)

theorem AV.kill_kill (s n : Nat) : ∀ a : AV, (a.kill s n).kill s n = a.kill s n
  | .gd c a => by simp only [AV.kill, AV.kill_kill s n a]
  | .al s' p => by simp only [AV.kill]; split <;> simp [AV.kill, *]
  | .pt s' p i j => by simp only [AV.kill]; split <;> simp [AV.kill, *]
  | .sub s' p i j => by simp only [AV.kill]; split <;> simp [AV.kill, *]
  | .bsl s' p m => by simp only [AV.kill]; split <;> simp [AV.kill, *]
  | .no => rfl
  | .undef => rfl
  | .sv _ => rfl
  | .tup _ => rfl

/-- A variable's own cut: 's = s[lo:hi]'. -/
theorem SimR.cutOwn (h : SimR N B w0 S0 env a w rows) {d t lo hi z : Nat} {els : List (List DV)} (hd : d < N) (ht : env.get t = .sub d [] lo hi) (hx : env.root d = some (.ow z els)) (hz : ∀ e ∈ els, e.length = z) :
    Sim N B w0 S0 (env.put d (.sv (.one (.ow z ((els.drop lo).take (hi - lo)))))) (a.put (some d) (Act.f a t)) w := by
  have hr := h.rel t
  rw [ht] at hr
  obtain ⟨_, x, y, A, n, c, els', hx', hcat, hels, hn, h3, h4, h5, z', hz', hv⟩ := hr
  rw [hx] at hx'
  injection hx' with hx'
  subst hx'
  simp only [cat, Option.some.injEq, Prod.mk.injEq] at hcat
  obtain ⟨hfd, rfl⟩ := hcat
  simp only [DV.elsOf, Option.some.injEq] at hels
  subst hels
  have hcz := h.root_cz hx
  rw [hfd] at hcz
  rw [hv]
  have fin : ∀ r' : List Nat, (∀ b ∈ r', b ∈ rows d) → r'.Nodup → (∀ S', (∀ b, SS B S0 w rows b → S' b) → Cz w S' (.slice (if c = lo then A else A.map (·.add (lo * z'))) (hi - lo) (c - lo)) (.ow z ((els.drop lo).take (hi - lo))) r') →
      Sim N B w0 S0 (env.put d (.sv (.one (.ow z ((els.drop lo).take (hi - lo)))))) (a.put (some d) (.slice (if c = lo then A else A.map (·.add (lo * z'))) (hi - lo) (c - lo))) w := by
    intro r' h1 h2 h3
    have hone : (Act.f a d).oneCell' = true := by rw [hfd]; rfl
    have hs := h.consume hd hx (n := 0) (.inl rfl) (Below.refl B w) (rs' := []) (r' := r') (by simp) (by simp) (fun b hb => ⟨.inl (h1 b hb), (h.own d b (h1 b hb)).2⟩) h2 (by simp) (fun _ _ _ => rfl) (fun S' _ => .dead _ hone) (fun S' hS' => .one _ _ _ (h3 S' hS'))
    refine Sim.congr (fun k => ?_) ⟨_, hs⟩
    rw [Env.get_put, Env.get_put, Env.get_setRoot]
    by_cases e : d = k
    · simp [e]
    · simp only [e, if_false, AV.kill_kill]
  generalize hvd : Value.slice A n c = vd at hcz
  generalize hrd : rows d = rd at hcz
  cases hcz with
  | owNil =>
    injection hvd with e1 e2 e3
    subst e1
    subst e2
    subst e3
    have e4 : lo = 0 := by omega
    have e5 : hi = 0 := by omega
    subst e4
    subst e5
    exact fin [] (by simp) (by simp) (fun S' _ => by simpa using Cz.owNil z)
  | ow b off n' c' z0 els0 T cs rs hb hne hc hm hsz hzz hl =>
    injection hvd with e1 e2 e3
    subst e1
    subst e2
    subst e3
    have hcases : els = [] ∨ z' = z := by
      cases els with
      | nil => exact .inl rfl
      | cons e es => right; have := hz e (by simp); have := hz' e (by simp); omega
    have hnd : (b :: rs).Nodup := by rw [← hrd]; exact h.nodup d
    have hmemd : ∀ k, k ∈ rows d ↔ k ∈ b :: rs := by intro k; rw [hrd]
    by_cases hcl : c = lo
    · -- nothing is left, not even room
      have hlo : hi - lo = 0 := by omega
      rw [if_pos hcl, hlo, List.take_zero] at fin
      rw [if_pos hcl, hlo, List.take_zero]
      refine fin [b] (fun k hk => (hmemd k).2 (by simp at hk; simp [hk])) (by simp) (fun S' hS' => ?_)
      exact .ow b off 0 (c - lo) z [] T cs [] hb rfl (by omega) (by omega) (by simp [hcl]; omega) (by simp) (by simpa using CzL.nil)
    · rw [if_neg hcl] at fin
      rw [if_neg hcl]
      obtain ⟨r1, r2, er, _, g2⟩ := CzL.split (lo * z) hl
      obtain ⟨r3, r4, er2, g3, _⟩ := CzL.split ((hi - lo) * z) g2
      rw [flatten_drop lo hzz, flatten_take (hi - lo) (fun e he => hzz e (List.mem_of_mem_drop he))] at g3
      have hin : ∀ k ∈ b :: r3, k ∈ b :: rs := by
        intro k hk
        rw [er, er2]
        simp only [List.mem_cons, List.mem_append] at hk ⊢
        rcases hk with hk | hk
        · exact .inl hk
        · exact .inr (.inr (.inl hk))
      have hndr : (b :: r3).Nodup := by
        rw [er, er2] at hnd
        simp only [List.nodup_cons, List.nodup_append, List.mem_append] at hnd ⊢
        exact ⟨fun hb3 => hnd.1 (.inr (.inl hb3)), hnd.2.2.1.1⟩
      have hzlo : lo * z' = lo * z := by
        rcases hcases with he | he
        · subst he
          simp at hne
          have : lo = 0 := by omega
          simp [this]
        · rw [he]
      have e9 : (Option.map (fun x : Addr => x.add (lo * z')) (some ⟨b, off, none⟩)) = some ⟨b, off + lo * z, none⟩ := by
        rw [hzlo, Option.map_some, add_mk]
      rw [e9] at fin ⊢
      refine fin (b :: r3) (fun k hk => (hmemd k).2 (hin k hk)) hndr (fun S' hS' => ?_)
      have hcm : lo * z + (c - lo) * z = c * z := by rw [← Nat.add_mul]; congr 1; omega
      refine .ow b (off + lo * z) (hi - lo) (c - lo) z _ T cs r3 hb (by rw [List.length_take, List.length_drop]; omega) (by omega) (by omega) (by omega) (fun e he => hzz e (List.mem_of_mem_drop (List.mem_of_mem_take he))) ?_
      have hseg : ((((cs.toList.drop off).take (n * z)).drop (lo * z)).take ((hi - lo) * z)) = (cs.toList.drop (off + lo * z)).take ((hi - lo) * z) := by
        have hle : lo * z + (hi - lo) * z ≤ n * z := by rw [← Nat.add_mul]; exact Nat.mul_le_mul_right _ (by omega)
        rw [seg hle, List.drop_drop]
      rw [hseg] at g3
      exact g3.keep (fun b hb => ⟨hS' b hb, rfl⟩) (fun _ _ => rfl)

end

end Go.Av
