/- Regions that draw their order: what is known after them, whatever the order. -/
import Derived.Test.YtpnpnldabhmojaaAvV
set_option linter.unusedVariables false
set_option linter.unusedSimpArgs false
namespace Go.Av
open Go Go.RowKit

def SOp.ts (o : SOp) : List Nat := opTmps o.op ++ (match o.g with
  | some (s, _) => [s]
  | none => [])

/-- An operation that may come early, and the region's slots that its result may lead to. -/
structure DOp where
  o : SOp
  kn : List Nat

/-- An operation behind all of its kind; which of the others may come later than it. -/
structure BOp where
  o : SOp
  kn : List Nat
  un : List Bool

def takes : Op → Option Nat
  | .call c => match c.callee, c.args.toList with
    | .builtin .append, .tmp t :: _ => some t
    | _, _ => none
  | _ => none

structure CR where
  lo : Nat
  hi : Nat
  xs : List Nat

def CR.has (c : CR) (t : Nat) : Bool := (decide (c.lo ≤ t) && decide (t ≤ c.hi)) || c.xs.contains t

def clears (c : CR) : Env → Env
  | [] => []
  | (t, a) :: e => (t, if c.has t || a.refs.any c.has then .no else a) :: clears c e

def arunA (P : Program) (c : CR) : List DOp → Env → List Nat → (Env → List Nat → Prop) → Prop
  | [], e, cs, K => K e cs
  | x :: os, e, cs, K => match x.o.dst with
    | none => False
    | some d => gmk P (view e x.o.ts) x.o fun av r => (av.refs.all fun s => !c.has s || x.kn.contains s) = true ∧
      match r with
      | none => takes x.o.op = none ∧ arunA P c os ((d, av) :: e) cs K
      | some (s, p) => p = [] ∧ takes x.o.op = some s ∧ arunA P c os ((d, av) :: e) (s :: cs) K

def lateOk (P : Program) (e e' : Env) : List DOp → List Bool → Prop
  | x :: os, true :: us => (match x.o.dst with
    | some d => e'.get d = e.get d ∧ (view e' x.o.ts = view e x.o.ts ∨ gmk P (view e' x.o.ts) x.o (fun av r => av = e.get d ∧ r = none))
    | none => False) ∧ lateOk P e e' os us
  | _ :: os, false :: us => lateOk P e e' os us
  | _, _ => True

def arunB (P : Program) (c : CR) (A : List DOp) : List BOp → Env → (Env → Prop) → Prop
  | [], e, K => K e
  | b :: bs, e, K => b.o.g = none ∧ bmk P (view e b.o.ts) b.o.op b.o.dst fun f =>
      (f.w.all fun x => (!c.has x.1 || b.kn.contains x.1 || b.o.dst == some x.1) && x.2.refs.all fun s => !c.has s) = true ∧
      lateOk P e (f.on e) A b.un ∧ arunB P c A bs (f.on e) K

def deads : List Nat → Env → Env
  | [], e => e
  | t :: ts, e => (t, .sv (.one .dead)) :: deads ts e

def xrun (P : Program) (c : CR) (A : List DOp) (B : List BOp) (e : Env) (K : Env → Prop) : Prop :=
  arunA P c A (clears c e) [] fun e1 cs => arunB P c A B e1 fun e2 => K (deads cs e2)

def aft (o : Oper) : List Nat := (o.after.toList.filter (Region.binds .any)).map (·.on)

def Down (ops : Array Oper) (E : Nat → Bool) : Prop := ∀ i o, ops[i]? = some o → E i = true → ∀ l ∈ aft o, E l = true
def Ready (ops : Array Oper) (E : Nat → Bool) (i : Nat) : Prop := ∀ o, ops[i]? = some o → ∀ l ∈ aft o, E l = true
def Must (ops : Array Oper) (i l : Nat) : Prop := ∀ E, Down ops E → Ready ops E i → E l = true

/-- What the text of a region shows. -/
structure Static (N : Nat) (ops : Array Oper) (A : List DOp) (B : List BOp) (c : CR) : Prop where
  len : ops.size = A.length + B.length
  back : ∀ i o, ops[i]? = some o → ∀ l ∈ aft o, l < i
  opA : ∀ (j : Nat) x, A[j]? = some x → ∃ o d, ops[j]? = some o ∧ o.dst = some d ∧ x.o.dst = some d ∧ x.o.op = o.op ∧ slimGuard ops o.guard = some x.o.g ∧ guardN N x.o.g = true ∧ d < N ∧ c.has d = true
  opB : ∀ (m : Nat) b, B[m]? = some b → ∃ o, ops[A.length + m]? = some o ∧ b.o.dst = o.dst ∧ b.o.op = o.op ∧ slimGuard ops o.guard = some b.o.g ∧ o.dst.all (· < N) = true
  inj : ∀ (j k : Nat) x y d, A[j]? = some x → A[k]? = some y → x.o.dst = some d → y.o.dst = some d → j = k
  srcA : ∀ (i : Nat) y o, A[i]? = some y → ops[i]? = some o → ∀ t ∈ y.o.ts, ∀ (j : Nat) x, A[j]? = some x → x.o.dst = some t → j ∈ aft o
  srcB : ∀ (m : Nat) b o, B[m]? = some b → ops[A.length + m]? = some o → ∀ t ∈ b.o.ts, ∀ (j : Nat) x, A[j]? = some x → x.o.dst = some t → j ∈ aft o
  knA : ∀ (i : Nat) y o, A[i]? = some y → ops[i]? = some o → ∀ s ∈ y.kn, (∃ l x, l ∈ aft o ∧ A[l]? = some x ∧ (x.o.dst = some s ∨ s ∈ x.kn)) ∧ ∀ (k : Nat) z, A[k]? = some z → takes z.o.op ≠ some s
  knB : ∀ (m : Nat) b o, B[m]? = some b → ops[A.length + m]? = some o → ∀ s ∈ b.kn, (∃ l x, l ∈ aft o ∧ A[l]? = some x ∧ (x.o.dst = some s ∨ s ∈ x.kn)) ∧ ∀ (k : Nat) z, A[k]? = some z → takes z.o.op ≠ some s
  take : ∀ (k : Nat) z t, A[k]? = some z → takes z.o.op = some t → (∃ (i : Nat) (x : DOp), A[i]? = some x ∧ x.o.dst = some t) ∧ t ∈ z.o.ts ∧ (∀ (i : Nat) x, A[i]? = some x → t ∈ x.o.ts → i = k) ∧ ∀ (m : Nat) b, B[m]? = some b → t ∉ b.o.ts
  mustA : ∀ (m : Nat) b, B[m]? = some b → ∀ j, j < A.length → b.un[j]? ≠ some true → Must ops (A.length + m) j
  mustB : ∀ (m : Nat) b, B[m]? = some b → ∀ m', m' < m → Must ops (A.length + m) (A.length + m')
  unt : ∀ (m : Nat) b, B[m]? = some b → ∀ (j : Nat) x, b.un[j]? = some true → A[j]? = some x → takes x.o.op = none
  dstB : ∀ (m : Nat) b d, B[m]? = some b → b.o.dst = some d → ∀ (j : Nat) x, A[j]? = some x → x.o.dst ≠ some d

section
variable {N : Nat} {ops : Array Oper} {A : List DOp} {B : List BOp} {c : CR}

/-- What an operation's result may lead to is there before it. -/
theorem Static.kn_must (hs : Static N ops A B c) : ∀ (i : Nat) {y : DOp}, A[i]? = some y → ∀ s ∈ y.kn, ∃ (l : Nat) (x : DOp), A[l]? = some x ∧ x.o.dst = some s ∧ Must ops i l := by
  intro i
  induction i using Nat.strongRecOn with
  | ind i ih =>
    intro y hy s hk
    obtain ⟨o, d, ho, _⟩ := hs.opA i y hy
    obtain ⟨⟨l, x, hl, hx, hor⟩, _⟩ := hs.knA i y o hy ho s hk
    have hli := hs.back i o ho l hl
    rcases hor with h1 | h1
    · exact ⟨l, x, hx, h1, fun E hd hr => hr o ho l hl⟩
    · obtain ⟨l', x', hx', hd', hm⟩ := ih l hli hx s h1
      obtain ⟨ol, _, hol, _⟩ := hs.opA l x hx
      exact ⟨l', x', hx', hd', fun E hd hr => hm E hd (fun o' ho' l2 hl2 => hd l o' ho' (hr o ho l hl) l2 hl2)⟩

theorem Static.kn_mustB (hs : Static N ops A B c) {m : Nat} {b : BOp} (hb : B[m]? = some b) {s : Nat} (hk : s ∈ b.kn) : ∃ (l : Nat) (x : DOp), A[l]? = some x ∧ x.o.dst = some s ∧ Must ops (A.length + m) l := by
  obtain ⟨o, ho, _⟩ := hs.opB m b hb
  obtain ⟨⟨l, x, hl, hx, hor⟩, _⟩ := hs.knB m b o hb ho s hk
  rcases hor with h1 | h1
  · exact ⟨l, x, hx, h1, fun E hd hr => hr o ho l hl⟩
  · obtain ⟨l', x', hx', hd', hm⟩ := hs.kn_must l hx s h1
    exact ⟨l', x', hx', hd', fun E hd hr => hm E hd (fun o' ho' l2 hl2 => hd l o' ho' (hr o ho l hl) l2 hl2)⟩

theorem Static.not_has (hs : Static N ops A B c) {t : Nat} (h : c.has t = false) {j : Nat} {x : DOp} (hx : A[j]? = some x) : x.o.dst ≠ some t := by
  intro hd
  obtain ⟨o, d, _, _, h1, _, _, _, _, h2⟩ := hs.opA j x hx
  rw [hd] at h1
  injection h1 with h1
  subst h1
  rw [h] at h2
  cases h2

/-- What leads to the region's slots. -/
def RefInv (c : CR) (A : List DOp) (V : Env) : Prop :=
  ∀ t, ∀ s ∈ (V.get t).refs, c.has s = true → ∃ (i : Nat) (x : DOp), A[i]? = some x ∧ x.o.dst = some t ∧ s ∈ x.kn

/-- What is known in the middle of a region. -/
structure Mid (A : List DOp) (cn : Nat → Option Nat) (E : Nat → Bool) (V env : Env) : Prop where
  out : ∀ (j : Nat) x d, A[j]? = some x → x.o.dst = some d → E j = false → env.get d = .no
  gone : ∀ (k : Nat), k < A.length → E k = true → ∀ t, cn k = some t → env.get t = .sv (.one .dead)
  here : ∀ t, (∀ (j : Nat) x, A[j]? = some x → x.o.dst = some t → E j = true) → (∀ k, k < A.length → E k = true → cn k ≠ some t) → env.get t = V.get t

theorem Mid.view (hs : Static N ops A B c) {cn : Nat → Option Nat} {E : Nat → Bool} {V env : Env} (hm : Mid A cn E V env) (hri : RefInv c A V) (hdn : Down ops E) (hcn : ∀ (k : Nat) z, A[k]? = some z → cn k = takes z.o.op) {ts : List Nat}
    (h1 : ∀ t ∈ ts, ∀ (j : Nat) x, A[j]? = some x → x.o.dst = some t → E j = true) (h2 : ∀ t ∈ ts, ∀ k, k < A.length → E k = true → cn k ≠ some t) : view env ts = view V ts := by
  have hts : ∀ t ∈ ts, env.get t = V.get t := fun t ht => hm.here t (h1 t ht) (h2 t ht)
  refine view_congr hts fun t ht s hs' => ?_
  rw [hts t ht] at hs'
  have htake : ∀ (k : Nat), k < A.length → cn k = some s → c.has s = true := by
    intro k hk hc
    have hz := List.getElem?_eq_getElem hk
    rw [hcn k _ hz] at hc
    obtain ⟨⟨i, x, hx, hd⟩, _⟩ := hs.take k _ s hz hc
    obtain ⟨_, d, _, _, g1, _, _, _, _, g2⟩ := hs.opA i x hx
    rw [hd] at g1
    injection g1 with g1
    subst g1
    exact g2
  cases hc : c.has s with
  | false =>
    refine hm.here s (fun j x hx hd => (hs.not_has hc hx hd).elim) fun k hk _ hck => ?_
    rw [htake k hk hck] at hc
    cases hc
  | true =>
    obtain ⟨i, x, hx, hd, hk⟩ := hri t s hs' hc
    obtain ⟨o, _, ho, _⟩ := hs.opA i x hx
    obtain ⟨l, z, hz, hzd, hmust⟩ := hs.kn_must i hx s hk
    have hE := hmust E hdn (fun o' ho' l' hl' => hdn i o' ho' (h1 t ht i x hx hd) l' hl')
    refine hm.here s (fun j y hy hyd => ?_) fun k hk' _ hck => ?_
    · rw [hs.inj j l y z s hy hz hyd hzd]
      exact hE
    · have hz' := List.getElem?_eq_getElem hk'
      rw [hcn k _ hz'] at hck
      exact (hs.knA i x o hx ho s hk).2 k _ hz' hck
end

end Go.Av
