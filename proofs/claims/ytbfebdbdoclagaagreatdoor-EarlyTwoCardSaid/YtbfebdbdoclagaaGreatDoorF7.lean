/- Part of a proof. -/
import Derived.Test.YtbfebdbdoclagaaGreatDoorF6
set_option linter.unusedVariables false
set_option linter.unusedSimpArgs false
set_option maxHeartbeats 64000000
namespace Go.Av
open Go Go.RowKit
def SOp.ts (o : SOp) : List Nat := opTmps o.op ++ (match o.g with
 | some (s, _) => [s]
 | none => [])
structure DOp where
 o : SOp
 kn : List Nat
structure BOp where
 o : SOp
 kn : List Nat
 un : List Bool
def takes : Op -> Option Nat
 | .call c => match c.callee, c.args.toList with
   | .builtin .append, .tmp t :: _ => some t
   | _, _ => none
 | _ => none
structure CR where
 lo : Nat
 hi : Nat
 xs : List Nat
def CR.has (c : CR) (t : Nat) : Bool := (decide (c.lo <= t) && decide (t <= c.hi)) || c.xs.contains t
def clears (c : CR) : Env -> Env
 | [] => []
 | (t, a) :: e => (t, if c.has t || a.refs.any c.has then .no else a) :: clears c e
def arunA (P : Program) (c : CR) : List DOp -> Env -> List Nat -> (Env -> List Nat -> Prop) -> Prop
 | [], e, cs, K => K e cs
 | x :: os, e, cs, K => match x.o.dst with
   | none => False
   | some d => gmk P (view e x.o.ts) x.o fun av r => (av.refs.all fun s => !c.has s || x.kn.contains s) = true /\
     match r with
     | none => takes x.o.op = none /\ arunA P c os ((d, av) :: e) cs K
     | some (s, p) => p = [] /\ takes x.o.op = some s /\ arunA P c os ((d, av) :: e) (s :: cs) K
def lateOk (P : Program) (e e' : Env) : List DOp -> List Bool -> Prop
 | x :: os, true :: us => (match x.o.dst with
   | some d => e'.get d = e.get d /\ (view e' x.o.ts = view e x.o.ts \/ gmk P (view e' x.o.ts) x.o (fun av r => av = e.get d /\ r = none))
   | none => False) /\ lateOk P e e' os us
 | _ :: os, false :: us => lateOk P e e' os us
 | _, _ => True
def arunB (P : Program) (c : CR) (A : List DOp) : List BOp -> Env -> (Env -> Prop) -> Prop
 | [], e, K => K e
 | b :: bs, e, K => b.o.g = none /\ bmk P (view e b.o.ts) b.o.op b.o.dst fun f =>
   (f.w.all fun x => (!c.has x.1 || b.kn.contains x.1 || b.o.dst == some x.1) && x.2.refs.all fun s => !c.has s) = true /\
   lateOk P e (f.on e) A b.un /\ arunB P c A bs (f.on e) K
def deads : List Nat -> Env -> Env
 | [], e => e
 | t :: ts, e => (t, .sv (.one .dead)) :: deads ts e
def xrun (P : Program) (c : CR) (A : List DOp) (B : List BOp) (e : Env) (K : Env -> Prop) : Prop :=
 arunA P c A (clears c e) [] fun e1 cs => arunB P c A B e1 fun e2 => K (deads cs e2)
def aft (o : Oper) : List Nat := (o.after.toList.filter (Region.binds .any)).map (·.on)
def Down (ops : Array Oper) (E : Nat -> Bool) : Prop := ∀ i o, ops[i]? = some o -> E i = true -> ∀ l ∈ aft o, E l = true
def Ready (ops : Array Oper) (E : Nat -> Bool) (i : Nat) : Prop := ∀ o, ops[i]? = some o -> ∀ l ∈ aft o, E l = true
def Must (ops : Array Oper) (i l : Nat) : Prop := ∀ E, Down ops E -> Ready ops E i -> E l = true
structure Static (N : Nat) (ops : Array Oper) (A : List DOp) (B : List BOp) (c : CR) (pa pb : Nat -> Nat) : Prop where
 cover : ∀ j, j < ops.size -> (∃ i, i < A.length /\ j = pa i) \/ (∃ i, i < B.length /\ j = pb i)
 inA : ∀ i, i < A.length -> pa i < ops.size
 inB : ∀ i, i < B.length -> pb i < ops.size
 mono : ∀ i k, i < A.length -> k < A.length -> pa i < pa k -> i < k
 injA : ∀ i k, i < A.length -> k < A.length -> pa i = pa k -> i = k
 injB : ∀ i k, i < B.length -> k < B.length -> pb i = pb k -> i = k
 far : ∀ i k, i < A.length -> k < B.length -> pa i ≠ pb k
 back : ∀ i o, ops[i]? = some o -> ∀ l ∈ aft o, l < i
 opA : ∀ (j : Nat) x, A[j]? = some x -> ∃ o d, ops[pa j]? = some o /\ o.dst = some d /\ x.o.dst = some d /\ x.o.op = o.op /\ slimGuard ops o.guard = some x.o.g /\ guardN N x.o.g = true /\ d < N /\ c.has d = true
 opB : ∀ (m : Nat) b, B[m]? = some b -> ∃ o, ops[pb m]? = some o /\ b.o.dst = o.dst /\ b.o.op = o.op /\ slimGuard ops o.guard = some b.o.g /\ o.dst.all (· < N) = true
 inj : ∀ (j k : Nat) x y d, A[j]? = some x -> A[k]? = some y -> x.o.dst = some d -> y.o.dst = some d -> j = k
 srcA : ∀ (i : Nat) y o, A[i]? = some y -> ops[pa i]? = some o -> ∀ t ∈ y.o.ts, ∀ (j : Nat) x, A[j]? = some x -> x.o.dst = some t -> pa j ∈ aft o
 srcB : ∀ (m : Nat) b o, B[m]? = some b -> ops[pb m]? = some o -> ∀ t ∈ b.o.ts, ∀ (j : Nat) x, A[j]? = some x -> x.o.dst = some t -> pa j ∈ aft o
 knA : ∀ (i : Nat) y o, A[i]? = some y -> ops[pa i]? = some o -> ∀ s ∈ y.kn, (∃ l x, pa l ∈ aft o /\ A[l]? = some x /\ (x.o.dst = some s \/ s ∈ x.kn)) /\ ∀ (k : Nat) z, A[k]? = some z -> takes z.o.op ≠ some s
 knB : ∀ (m : Nat) b o, B[m]? = some b -> ops[pb m]? = some o -> ∀ s ∈ b.kn, (∃ l x, pa l ∈ aft o /\ A[l]? = some x /\ (x.o.dst = some s \/ s ∈ x.kn)) /\ ∀ (k : Nat) z, A[k]? = some z -> takes z.o.op ≠ some s
 take : ∀ (k : Nat) z t, A[k]? = some z -> takes z.o.op = some t -> (∃ (i : Nat) (x : DOp), A[i]? = some x /\ x.o.dst = some t) /\ t ∈ z.o.ts /\ (∀ (i : Nat) x, A[i]? = some x -> t ∈ x.o.ts -> i = k) /\ ∀ (m : Nat) b, B[m]? = some b -> t ∉ b.o.ts
 mustA : ∀ (m : Nat) b, B[m]? = some b -> ∀ j, j < A.length -> b.un[j]? ≠ some true -> Must ops (pb m) (pa j)
 mustB : ∀ (m : Nat) b, B[m]? = some b -> ∀ m', m' < m -> Must ops (pb m) (pb m')
 unt : ∀ (m : Nat) b, B[m]? = some b -> ∀ (j : Nat) x, b.un[j]? = some true -> A[j]? = some x -> takes x.o.op = none
 dstB : ∀ (m : Nat) b d, B[m]? = some b -> b.o.dst = some d -> ∀ (j : Nat) x, A[j]? = some x -> x.o.dst ≠ some d
section
variable {N : Nat} {ops : Array Oper} {A : List DOp} {B : List BOp} {c : CR} {pa pb : Nat -> Nat}
theorem Static.kn_must (hs : Static N ops A B c pa pb) : ∀ (i : Nat) {y : DOp}, A[i]? = some y -> ∀ s ∈ y.kn, ∃ (l : Nat) (x : DOp), A[l]? = some x /\ x.o.dst = some s /\ Must ops (pa i) (pa l) := by
 intro i
 induction i using Nat.strongRecOn with
 | ind i ih =>
   intro y hy s hk
   obtain ⟨o, d, ho, _⟩ := hs.opA i y hy
   obtain ⟨⟨l, x, hl, hx, hor⟩, _⟩ := hs.knA i y o hy ho s hk
   have hli := hs.mono l i (List.getElem?_eq_some_iff.1 hx).1 (List.getElem?_eq_some_iff.1 hy).1 (hs.back (pa i) o ho (pa l) hl)
   rcases hor with h1 | h1
   ·exact ⟨l, x, hx, h1, fun E hd hr => hr o ho (pa l) hl⟩
   ·obtain ⟨l', x', hx', hd', hm⟩ := ih l hli hx s h1
    obtain ⟨ol, _, hol, _⟩ := hs.opA l x hx
    exact ⟨l', x', hx', hd', fun E hd hr => hm E hd (fun o' ho' l2 hl2 => hd (pa l) o' ho' (hr o ho (pa l) hl) l2 hl2)⟩
theorem Static.kn_mustB (hs : Static N ops A B c pa pb) {m : Nat} {b : BOp} (hb : B[m]? = some b) {s : Nat} (hk : s ∈ b.kn) : ∃ (l : Nat) (x : DOp), A[l]? = some x /\ x.o.dst = some s /\ Must ops (pb m) (pa l) := by
 obtain ⟨o, ho, _⟩ := hs.opB m b hb
 obtain ⟨⟨l, x, hl, hx, hor⟩, _⟩ := hs.knB m b o hb ho s hk
 rcases hor with h1 | h1
 ·exact ⟨l, x, hx, h1, fun E hd hr => hr o ho (pa l) hl⟩
 ·obtain ⟨l', x', hx', hd', hm⟩ := hs.kn_must l hx s h1
  exact ⟨l', x', hx', hd', fun E hd hr => hm E hd (fun o' ho' l2 hl2 => hd (pa l) o' ho' (hr o ho (pa l) hl) l2 hl2)⟩
theorem Static.not_has (hs : Static N ops A B c pa pb) {t : Nat} (h : c.has t = false) {j : Nat} {x : DOp} (hx : A[j]? = some x) : x.o.dst ≠ some t := by
 intro hd
 obtain ⟨o, d, _, _, h1, _, _, _, _, h2⟩ := hs.opA j x hx
 rw [hd] at h1
 injection h1 with h1
 subst h1
 rw [h] at h2
 cases h2
def RefInv (c : CR) (A : List DOp) (V : Env) : Prop :=
 ∀ t, ∀ s ∈ (V.get t).refs, c.has s = true -> ∃ (i : Nat) (x : DOp), A[i]? = some x /\ x.o.dst = some t /\ s ∈ x.kn
structure Mid (A : List DOp) (cn : Nat -> Option Nat) (E : Nat -> Bool) (V env : Env) : Prop where
 out : ∀ (j : Nat) x d, A[j]? = some x -> x.o.dst = some d -> E j = false -> env.get d = .no
 gone : ∀ (k : Nat), k < A.length -> E k = true -> ∀ t, cn k = some t -> env.get t = .sv (.one .dead)
 here : ∀ t, (∀ (j : Nat) x, A[j]? = some x -> x.o.dst = some t -> E j = true) -> (∀ k, k < A.length -> E k = true -> cn k ≠ some t) -> env.get t = V.get t
theorem Mid.view (hs : Static N ops A B c pa pb) {cn : Nat -> Option Nat} {E : Nat -> Bool} {V env : Env} (hm : Mid A cn (fun j => E (pa j)) V env) (hri : RefInv c A V) (hdn : Down ops E) (hcn : ∀ (k : Nat) z, A[k]? = some z -> cn k = takes z.o.op) {ts : List Nat}
  (h1 : ∀ t ∈ ts, ∀ (j : Nat) x, A[j]? = some x -> x.o.dst = some t -> E (pa j) = true) (h2 : ∀ t ∈ ts, ∀ k, k < A.length -> E (pa k) = true -> cn k ≠ some t) : view env ts = view V ts := by
 have hts : ∀ t ∈ ts, env.get t = V.get t := fun t ht => hm.here t (h1 t ht) (h2 t ht)
 refine view_congr hts fun t ht s hs' => ?_
 rw [hts t ht] at hs'
 have htake : ∀ (k : Nat), k < A.length -> cn k = some s -> c.has s = true := by
  intro k hk hc
  have hz := List.getElem?_eq_getElem hk
  rw [hcn k _ hz] at hc
  obtain ⟨⟨i, x, hx, hd⟩, _⟩ := hs.take k _ s hz hc
  obtain ⟨_, d, _, _, g1, _, _, _, _, g2⟩ := hs.opA i x hx
  rw [hd] at g1
  injection g1 with g1
  subst g1
  exact g2
 cases hc : c.has s with
 | false =>
   refine hm.here s (fun j x hx hd => (hs.not_has hc hx hd).elim) fun k hk _ hck => ?_
   rw [htake k hk hck] at hc
   cases hc
 | true =>
   obtain ⟨i, x, hx, hd, hk⟩ := hri t s hs' hc
   obtain ⟨o, _, ho, _⟩ := hs.opA i x hx
   obtain ⟨l, z, hz, hzd, hmust⟩ := hs.kn_must i hx s hk
   have hE := hmust E hdn (fun o' ho' l' hl' => hdn (pa i) o' ho' (h1 t ht i x hx hd) l' hl')
   refine hm.here s (fun j y hy hyd => ?_) fun k hk' _ hck => ?_
   ·rw [hs.inj j l y z s hy hz hyd hzd]
    exact hE
   ·have hz' := List.getElem?_eq_getElem hk'
    rw [hcn k _ hz'] at hck
    exact (hs.knA i x o hx ho s hk).2 k _ hz' hck
end
end Go.Av
namespace Go.Av
open Go Go.RowKit
def also (E : Nat -> Bool) (j : Nat) : Nat -> Bool := fun i => if i = j then true else E i
theorem also_true {E : Nat -> Bool} {j i : Nat} (h : E i = true) : also E j i = true := by
 unfold also
 split
 ·rfl
 ·exact h
theorem also_down {ops : Array Oper} {E : Nat -> Bool} {j : Nat} (hd : Down ops E) (hr : Ready ops E j) : Down ops (also E j) := by
 intro i o ho hi l hl
 unfold also at hi
 split at hi
 ·rename_i e
  subst e
  exact also_true (hr o ho l hl)
 ·exact also_true (hd i o ho hi l hl)
structure Obl (P : Program) (A : List DOp) (c : CR) (av : Nat -> AV) (cn : Nat -> Option Nat) (E : Nat -> Bool) (V : Env) : Prop where
 val : ∀ (j : Nat) x d, A[j]? = some x -> x.o.dst = some d -> E j = false -> V.get d = av j
 gk : ∀ (j : Nat) x, A[j]? = some x -> E j = false -> gmk P (view V x.o.ts) x.o (fun a r => a = av j /\ r = (cn j).map (·, []))
theorem killsOf_no : ∀ (k : List (Nat × Nat)), killsOf k .no = .no
 | [] => rfl
 | (s, n) :: k => killsOf_no k
theorem killsOf_sv (x : SV) : ∀ (k : List (Nat × Nat)), killsOf k (.sv x) = .sv x
 | [] => rfl
 | (s, n) :: k => killsOf_sv x k
section
variable {P : Program} {N B0 : Nat} {w0 : World} {S0 : Nat -> Prop} {Q : Exit -> Act -> World -> Prop}
variable {ops : Array Oper} {A : List DOp} {B : List BOp} {c : CR} {av : Nat -> AV} {cn : Nat -> Option Nat} {E : Nat -> Bool} {V env : Env} {pa pb : Nat -> Nat}
theorem Mid.stepA (hs : Static N ops A B c pa pb) (hm : Mid A cn (fun j => E (pa j)) V env) (hri : RefInv c A V) (hdn : Down ops E) (hcn : ∀ (k : Nat) z, A[k]? = some z -> cn k = takes z.o.op)
  {j : Nat} {x : DOp} {d : Nat} (hx : A[j]? = some x) (hd : x.o.dst = some d) (hE : E (pa j) = false) (hr : Ready ops E (pa j)) (hval : V.get d = av j) (hrefs : ((av j).refs.all fun s => !c.has s || x.kn.contains s) = true)
  (hroot : ∀ s, cn j = some s -> ∃ y, env.root s = some y) : Mid A cn (fun i => also E (pa j) (pa i)) V ((env.loses ((cn j).map (·, []))).put d (av j)) := by
 have hEi : ∀ i, also E (pa j) (pa i) = false -> E (pa i) = false /\ i ≠ j := by
  intro i h
  unfold also at h
  split at h
  ·cases h
  ·rename_i e; exact ⟨h, fun e' => e (by rw [e'])⟩
 obtain ⟨o, d', ho, _, hd', _, _, _, _, hcd⟩ := hs.opA j x hx
 rw [hd] at hd'
 injection hd' with hd'
 subst hd'
 have hjA : j < A.length := (List.getElem?_eq_some_iff.1 hx).1
 have htk : ∀ s, cn j = some s -> ∃ (i : Nat) (y : DOp), A[i]? = some y /\ y.o.dst = some s /\ E (pa i) = true := by
  intro s hsj
  rw [hcn j x hx] at hsj
  obtain ⟨⟨i, y, hy, hyd⟩, hts, _⟩ := hs.take j x s hx hsj
  exact ⟨i, y, hy, hyd, hr o ho (pa i) (hs.srcA j x o hx ho s hts i y hy hyd)⟩
 have hget : ∀ t, ((env.loses ((cn j).map (·, []))).put d (av j)).get t = if d = t then (av j).kill d 0 else if cn j = some t then .sv (.one .dead) else (match cn j with | some s => (env.get t).kill s 0 | none => env.get t).kill d 0 := by
  intro t
  rw [Env.get_put]
  split
  ·rfl
  ·cases hcj : cn j with
   | none => simp [Env.loses]
   | some s =>
     obtain ⟨y, hy⟩ := hroot s hcj
     simp only [Option.map_some, Env.loses, Env.give, hy, List.isEmpty_nil, if_true, setP, Env.get_setRoot, Option.some.injEq]
     split
     ·rfl
     ·rfl
 have hself : (av j).kill d 0 = av j := by
  refine AV.kill_noop d 0 _ fun hin => ?_
  have := List.all_eq_true.1 hrefs d hin
  simp only [hcd, Bool.not_true, Bool.false_or, List.contains_iff_mem] at this
  obtain ⟨l, z, hz, hzd, hmust⟩ := hs.kn_must j hx d this
  have hl := hmust E hdn hr
  rw [hs.inj l j z x d hz hx hzd hd, hE] at hl
  cases hl
 refine ⟨?_, ?_, ?_⟩
 ·intro i y d2 hy hyd hEi'
  obtain ⟨h1, h2⟩ := hEi i hEi'
  have h3 := hm.out i y d2 hy hyd h1
  rw [hget, h3]
  have hne : d ≠ d2 := fun e => h2 (hs.inj i j y x d2 hy hx hyd (e ▸ hd))
  rw [if_neg hne]
  split
  ·rename_i hc
   obtain ⟨i', y', hy', hyd', hE'⟩ := htk d2 hc
   rw [hs.inj i' i y' y d2 hy' hy hyd' hyd, h1] at hE'
   cases hE'
  ·cases cn j <;> rfl
 ·intro k hk hEk t hct
  rw [hget]
  by_cases hkj : k = j
  ·subst hkj
   obtain ⟨i', y', hy', hyd', hE'⟩ := htk t hct
   have hne : d ≠ t := by
    rintro rfl
    rw [hs.inj i' k y' x d hy' hx hyd' hd, hE] at hE'
    cases hE'
   rw [if_neg hne, if_pos hct]
  ·have hEk' : E (pa k) = true := by
    unfold also at hEk
    rw [if_neg (fun e => hkj (hs.injA k j hk hjA e))] at hEk
    exact hEk
   have h3 := hm.gone k hk hEk' t hct
   have hz := List.getElem?_eq_getElem hk
   have hct' := hct
   rw [hcn k _ hz] at hct'
   obtain ⟨⟨i, y, hy, hyd⟩, hts, _⟩ := hs.take k _ t hz hct'
   obtain ⟨ok, _, hok, _⟩ := hs.opA k _ hz
   have hEi' := hdn (pa k) ok hok hEk' (pa i) (hs.srcA k _ ok hz hok t hts i y hy hyd)
   have hne : d ≠ t := by
    rintro rfl
    rw [hs.inj i j y x d hy hx hyd hd, hE] at hEi'
    cases hEi'
   rw [if_neg hne, h3]
   split
   ·rfl
   ·cases cn j <;> rfl
 ·intro t h1 h2
  rw [hget]
  by_cases hdt : d = t
  ·subst hdt
   rw [if_pos rfl, hself, hval]
  ·rw [if_neg hdt]
   have hnt : cn j ≠ some t := h2 j hjA (by simp [also])
   rw [if_neg hnt]
   have hE1 : ∀ (i : Nat) y, A[i]? = some y -> y.o.dst = some t -> E (pa i) = true := by
    intro i y hy hyd
    have h3 := h1 i y hy hyd
    unfold also at h3
    split at h3
    ·rename_i e
     have e := hs.injA i j (List.getElem?_eq_some_iff.1 hy).1 hjA e
     subst e
     rw [hy] at hx
     injection hx with hx
     subst hx
     rw [hyd] at hd
     injection hd with hd
     exact (hdt hd.symm).elim
    ·exact h3
   have hh := hm.here t hE1 (fun k hk hEk => h2 k hk (also_true hEk))
   rw [hh]
   have hnr : ∀ s, c.has s = true -> (∀ (i : Nat) y, A[i]? = some y -> y.o.dst = some t -> s ∉ y.kn) -> s ∉ (V.get t).refs := by
    intro s hcs hno hin
    obtain ⟨i, y, hy, hyd, hk⟩ := hri t s hin hcs
    exact hno i y hy hyd hk
   have hk1 : (V.get t).kill d 0 = V.get t := by
    refine AV.kill_noop d 0 _ (hnr d hcd fun i y hy hyd hk => ?_)
    obtain ⟨l, z, hz, hzd, hmust⟩ := hs.kn_must i hy d hk
    obtain ⟨oi, _, hoi, _⟩ := hs.opA i y hy
    have hl := hmust E hdn (fun o' ho' l' hl' => hdn (pa i) o' ho' (hE1 i y hy hyd) l' hl')
    rw [hs.inj l j z x d hz hx hzd hd, hE] at hl
    cases hl
   cases hcj : cn j with
   | none => exact hk1
   | some s =>
     dsimp only
     have hk2 : (V.get t).kill s 0 = V.get t := by
      obtain ⟨i', y', hy', hyd', hE'⟩ := htk s hcj
      obtain ⟨_, d2, _, _, g1, _, _, _, _, g2⟩ := hs.opA i' y' hy'
      rw [hyd'] at g1
      injection g1 with g1
      subst g1
      refine AV.kill_noop s 0 _ (hnr s g2 fun i y hy hyd hk => ?_)
      obtain ⟨oi, _, hoi, _⟩ := hs.opA i y hy
      rw [hcn j x hx] at hcj
      exact (hs.knA i y oi hy hoi s hk).2 j x hx hcj
     rw [hk2, hk1]
theorem Mid.stepB (hs : Static N ops A B c pa pb) (hm : Mid A cn (fun j => E (pa j)) V env) (hdn : Down ops E) (hcn : ∀ (k : Nat) z, A[k]? = some z -> cn k = takes z.o.op)
  {m : Nat} {b : BOp} (hb : B[m]? = some b) (hr : Ready ops E (pb m)) {f : Eff} (hf : (f.w.all fun x => (!c.has x.1 || b.kn.contains x.1 || b.o.dst == some x.1) && x.2.refs.all fun s => !c.has s) = true) :
  Mid A cn (fun j => also E (pb m) (pa j)) (f.on V) (f.on env) := by
 have hmB : m < B.length := (List.getElem?_eq_some_iff.1 hb).1
 have hE : ∀ j, j < A.length -> also E (pb m) (pa j) = E (pa j) := by
  intro j hj
  unfold also
  rw [if_neg (hs.far j m hj hmB)]
 have hkeyL : ∀ (t : Nat) (l : Env), hasKey t l = true -> ∃ a, (t, a) ∈ l := by
  intro t l
  induction l with
  | nil => intro h; cases h
  | cons x l ih =>
    obtain ⟨s, a⟩ := x
    intro h
    simp only [hasKey, Bool.or_eq_true, beq_iff_eq] at h
    rcases h with h | h
    ·exact ⟨a, by simp [h]⟩
    ·obtain ⟨a', ha'⟩ := ih h
     exact ⟨a', by simp [ha']⟩
 have hkey : ∀ t, hasKey t f.w = true -> ∀ (j : Nat) x, A[j]? = some x -> x.o.dst = some t -> t ∈ b.kn := by
  intro t hk j x hx hxd
  obtain ⟨a, ha⟩ := hkeyL t f.w hk
  have := List.all_eq_true.1 hf _ ha
  simp only [Bool.and_eq_true, Bool.or_eq_true, Bool.not_eq_true', List.contains_iff_mem, beq_iff_eq] at this
  rcases this.1 with (h1 | h1) | h1
  ·exact (hs.not_has h1 hx hxd).elim
  ·exact h1
  ·exact (hs.dstB m b t hb h1 j x hx hxd).elim
 obtain ⟨o, ho, _⟩ := hs.opB m b hb
 refine ⟨?_, ?_, ?_⟩
 ·intro j x d hx hxd hEj
  have hjA : j < A.length := (List.getElem?_eq_some_iff.1 hx).1
  rw [hE j hjA] at hEj
  rw [Eff.get_on]
  split
  ·rename_i hk
   have hkn := hkey d hk j x hx hxd
   obtain ⟨l, z, hz, hzd, hmust⟩ := hs.kn_mustB hb hkn
   have hl := hmust E hdn hr
   rw [hs.inj l j z x d hz hx hzd hxd, hEj] at hl
   cases hl
  ·rw [hm.out j x d hx hxd hEj, killsOf_no]
 ·intro k hk hEk t hct
  rw [hE k hk] at hEk
  rw [Eff.get_on]
  have hz := List.getElem?_eq_getElem hk
  have hct' := hct
  rw [hcn k _ hz] at hct'
  split
  ·rename_i hkk
   obtain ⟨⟨i, y, hy, hyd⟩, _⟩ := hs.take k _ t hz hct'
   exact ((hs.knB m b o hb ho t (hkey t hkk i y hy hyd)).2 k _ hz hct').elim
  ·rw [hm.gone k hk hEk t hct, killsOf_sv]
 ·intro t h1 h2
  rw [Eff.get_on, Eff.get_on]
  split
  ·rfl
  ·rw [hm.here t (fun j x hx hxd => by rw [<- hE j (List.getElem?_eq_some_iff.1 hx).1]; exact h1 j x hx hxd) (fun k hk hEk => h2 k hk (by rw [hE k hk]; exact hEk))]
theorem RefInv.stepB (hri : RefInv c A V) {b : BOp} {f : Eff} (hf : (f.w.all fun x => (!c.has x.1 || b.kn.contains x.1 || b.o.dst == some x.1) && x.2.refs.all fun s => !c.has s) = true) : RefInv c A (f.on V) := by
 intro t s hsr hcs
 rw [Eff.get_on] at hsr
 split at hsr
 ·rename_i hk
  have key : ∀ (l : Env), hasKey t l = true -> ∃ x ∈ l, x.2 = Env.get l t := by
   intro l
   induction l with
   | nil => intro h; cases h
   | cons x l ih =>
     obtain ⟨s', a⟩ := x
     intro h
     simp only [hasKey, Bool.or_eq_true, beq_iff_eq] at h
     simp only [Env.get]
     by_cases e : s' = t
     ·exact ⟨(s', a), by simp, by simp [e]⟩
     ·rcases h with h | h
      ·exact (e h).elim
      ·obtain ⟨x, hx, hx2⟩ := ih h
       exact ⟨x, by simp [hx], by rw [if_neg e]; exact hx2⟩
  obtain ⟨x, hx, hx2⟩ := key f.w hk
  have := List.all_eq_true.1 hf x hx
  simp only [Bool.and_eq_true] at this
  have h3 := List.all_eq_true.1 this.2 s (by rw [hx2]; exact hsr)
  rw [hcs] at h3
  cases h3
 ·exact hri t s (killsOf_refs _ _ s hsr) hcs
theorem lateOk_get {e e' : Env} : ∀ {os : List DOp} {us : List Bool}, lateOk P e e' os us -> ∀ (j : Nat) x d, os[j]? = some x -> us[j]? = some true -> x.o.dst = some d -> e'.get d = e.get d /\ (view e' x.o.ts = view e x.o.ts \/ gmk P (view e' x.o.ts) x.o (fun av r => av = e.get d /\ r = none))
 | [], _, _, j, x, d, hx, _, _ => by simp at hx
 | _ :: _, [], _, j, x, d, _, hu, _ => by simp at hu
 | y :: os, u :: us, h, j, x, d, hx, hu, hd => by
   cases j with
   | zero =>
     simp only [List.getElem?_cons_zero, Option.some.injEq] at hx hu
     subst hx
     subst hu
     simp only [lateOk, hd] at h
     exact h.1
   | succ j =>
     simp only [List.getElem?_cons_succ] at hx hu
     cases u with
     | true => exact lateOk_get h.2 j x d hx hu hd
     | false => exact lateOk_get (os := os) (us := us) h j x d hx hu hd
theorem Obl.stepB (hs : Static N ops A B c pa pb) (hob : Obl P A c av cn (fun j => E (pa j)) V) (hdn : Down ops E) (hcn : ∀ (k : Nat) z, A[k]? = some z -> cn k = takes z.o.op) {m : Nat} {b : BOp} (hb : B[m]? = some b) (hr : Ready ops E (pb m)) {f : Eff} (hl : lateOk P V (f.on V) A b.un) :
  Obl P A c av cn (fun j => also E (pb m) (pa j)) (f.on V) := by
 have hEj : ∀ (j : Nat) (x : DOp), A[j]? = some x -> also E (pb m) (pa j) = false -> E (pa j) = false /\ b.un[j]? = some true := by
  intro j x hx h
  have hjA : j < A.length := (List.getElem?_eq_some_iff.1 hx).1
  unfold also at h
  rw [if_neg (hs.far j m hjA (List.getElem?_eq_some_iff.1 hb).1)] at h
  refine ⟨h, ?_⟩
  by_cases hu : b.un[j]? = some true
  ·exact hu
  ·have := hs.mustA m b hb j hjA hu E hdn hr
   rw [h] at this
   cases this
 refine ⟨?_, ?_⟩
 ·intro j x d hx hxd hE
  obtain ⟨h1, h2⟩ := hEj j x hx hE
  rw [(lateOk_get hl j x d hx h2 hxd).1]
  exact hob.val j x d hx hxd h1
 ·intro j x hx hE
  obtain ⟨h1, h2⟩ := hEj j x hx hE
  obtain ⟨_, d, _, _, hxd, _⟩ := hs.opA j x hx
  rcases (lateOk_get hl j x d hx h2 hxd).2 with h3 | h3
  ·rw [h3]
   exact hob.gk j x hx h1
  ·rw [hcn j x hx, hs.unt m b hb j x h2 hx]
   rw [hob.val j x d hx hxd h1] at h3
   exact h3
end
end Go.Av
namespace Go.Av
open Go Go.RowKit
theorem clears_get (c : CR) (t : Nat) : ∀ (e : Env), (clears c e).get t = if c.has t || (e.get t).refs.any c.has then .no else e.get t
 | [] => by simp [clears, Env.get]
 | (s, a) :: e => by
   have ih := clears_get c t e
   by_cases h : s = t
   ·subst h; simp [clears, Env.get]
   ·simp only [clears, Env.get, h, if_false]
    exact ih
section
variable {P : Program} {N B0 : Nat} {w0 : World} {S0 : Nat -> Prop} {Q : Exit -> Act -> World -> Prop}
variable {ops : Array Oper} {A : List DOp} {B : List BOp} {c : CR} {cn : Nat -> Option Nat} {E : Nat -> Bool} {V env : Env} {pa pb : Nat -> Nat}
theorem Sim.clears {a : Act} {w : World} (c : CR) (h : Sim N B0 w0 S0 env a w) : Sim N B0 w0 S0 (Av.clears c env) a w := by
 obtain ⟨rows, h⟩ := h
 refine ⟨rows, h.defers, h.size, h.below, h.base, h.old, h.own, h.nodup, h.apart, fun t => ?_⟩
 rw [clears_get]
 split
 ·trivial
 ·rename_i hc
  simp only [Bool.or_eq_true, not_or, List.any_eq_true, not_exists, not_and] at hc
  refine AVR.refKeep (fun _ h => h) _ (h.rel t) (refOk_refs _ fun s hs => ?_)
  unfold Env.root
  rw [clears_get]
  have hr := h.rel t
  have : ∀ x : AV, x.asOne ≠ none -> x.refs = [] := by
   intro x
   cases x <;> simp [AV.asOne, AV.refs]
  split
  ·rename_i h2
   simp only [Bool.or_eq_true, List.any_eq_true] at h2
   rcases h2 with h2 | ⟨u, hu, h2⟩
   ·exact (hc.2 s hs h2).elim
   ·cases hx : (env.get s).asOne with
    | none => rfl
    | some y =>
      rw [this _ (by rw [hx]; simp)] at hu
      cases hu
  ·rfl
theorem arunA_get (hs : Static N ops A B c pa pb) {K : Env -> List Nat -> Prop} : ∀ (rest : List DOp) (j0 : Nat) (e : Env) (cs : List Nat), (∀ i, rest[i]? = A[j0 + i]?) -> j0 + rest.length = A.length ->
  (∀ t, ∀ s ∈ (e.get t).refs, c.has s = true -> ∃ (i : Nat) (x : DOp), i < j0 /\ A[i]? = some x /\ x.o.dst = some t /\ s ∈ x.kn) -> arunA P c rest e cs K ->
  ∃ (av : Nat -> AV) (e1 : Env) (cs1 : List Nat), K e1 cs1 /\ RefInv c A e1 /\ (∀ t, (∀ (i : Nat) (x : DOp), j0 <= i -> A[i]? = some x -> x.o.dst ≠ some t) -> e1.get t = e.get t) /\
   (∀ (j : Nat) x d, j0 <= j -> A[j]? = some x -> x.o.dst = some d -> e1.get d = av j /\ ((av j).refs.all fun s => !c.has s || x.kn.contains s) = true /\ gmk P (view e1 x.o.ts) x.o (fun a r => a = av j /\ r = (takes x.o.op).map (·, []))) /\
   ∀ s, s ∈ cs1 ↔ s ∈ cs \/ ∃ (j : Nat) (x : DOp), j0 <= j /\ A[j]? = some x /\ takes x.o.op = some s
 | [], j0, e, cs, hl, hlen, hri, hk => by
   simp only [List.length_nil, Nat.add_zero] at hlen
   have hno : ∀ (j : Nat) (x : DOp), j0 <= j -> A[j]? ≠ some x := by
    intro j x hj hx
    have := (List.getElem?_eq_some_iff.1 hx).1
    omega
   refine ⟨fun _ => .no, e, cs, hk, fun t s h1 h2 => ?_, fun _ _ => rfl, fun j x d hj hx => (hno j x hj hx).elim, fun s => ⟨.inl, ?_⟩⟩
   ·obtain ⟨i, x, _, h3⟩ := hri t s h1 h2
    exact ⟨i, x, h3⟩
   ·rintro (h | ⟨j, x, hj, hx, _⟩)
    ·exact h
    ·exact (hno j x hj hx).elim
 | x :: rest, j0, e, cs, hl, hlen, hri, hk => by
   have hx : A[j0]? = some x := by have := hl 0; simpa using this.symm
   obtain ⟨o, d, ho, hod, hxd, hop, hg, hgN, hdN, hcd⟩ := hs.opA j0 x hx
   simp only [arunA, hxd] at hk
   obtain ⟨av0, r, ⟨hchk, hr⟩, hmk⟩ := gmk_mono hk
   have hrest : r = (takes x.o.op).map (·, []) /\ ∃ cs', arunA P c rest ((d, av0) :: e) cs' K /\ ∀ s, s ∈ cs' ↔ s ∈ cs \/ takes x.o.op = some s := by
    cases r with
    | none =>
      obtain ⟨h1, h2⟩ := hr
      rw [h1]
      exact ⟨rfl, cs, h2, by simp⟩
    | some sp =>
      obtain ⟨s, p⟩ := sp
      obtain ⟨rfl, h1, h2⟩ := hr
      rw [h1]
      refine ⟨rfl, s :: cs, h2, fun s' => ?_⟩
      simp only [List.mem_cons, Option.some.injEq]
      constructor
      ·rintro (h | h)
       ·exact .inr h.symm
       ·exact .inl h
      ·rintro (h | h)
       ·exact .inr h
       ·exact .inl h.symm
   obtain ⟨hrr, cs', hrun, hcs'⟩ := hrest
   have hri' : ∀ t, ∀ s ∈ (Env.get ((d, av0) :: e) t).refs, c.has s = true -> ∃ (i : Nat) (y : DOp), i < j0 + 1 /\ A[i]? = some y /\ y.o.dst = some t /\ s ∈ y.kn := by
    intro t s h1 h2
    simp only [Env.get] at h1
    split at h1
    ·rename_i e'
     subst e'
     have := List.all_eq_true.1 hchk s h1
     simp only [h2, Bool.not_true, Bool.false_or, List.contains_iff_mem] at this
     exact ⟨j0, x, by omega, hx, hxd, this⟩
    ·obtain ⟨i, y, h3, h4⟩ := hri t s h1 h2
     exact ⟨i, y, by omega, h4⟩
   obtain ⟨av', e1, cs1, hK, hinv, hfr, hall, hcs1⟩ := arunA_get hs rest (j0 + 1) ((d, av0) :: e) cs' (fun i => by have := hl (i + 1); simpa [Nat.add_assoc, Nat.add_comm 1 i] using this) (by simp only [List.length_cons] at hlen; omega) hri' hrun
   have hnext : ∀ (i : Nat) (y : DOp), j0 + 1 <= i -> A[i]? = some y -> y.o.dst ≠ some d := fun i y hi hy hyd => by
    have := hs.inj i j0 y x d hy hx hyd hxd
    omega
   have hval : e1.get d = av0 := by
    rw [hfr d hnext]
    simp [Env.get]
   have hkeep : ∀ t, (∀ (i : Nat) (y : DOp), j0 <= i -> A[i]? = some y -> y.o.dst ≠ some t) -> e1.get t = e.get t := by
    intro t ht
    rw [hfr t (fun i y hi hy => ht i y (by omega) hy)]
    have hne : d ≠ t := fun e' => ht j0 x (by omega) hx (e' ▸ hxd)
    simp [Env.get, hne]
   have hview : view e x.o.ts = view e1 x.o.ts := by
    have hts : ∀ t ∈ x.o.ts, e.get t = e1.get t := fun t ht => (hkeep t fun i y hi hy hyd => by
     have := hs.mono i j0 (List.getElem?_eq_some_iff.1 hy).1 (List.getElem?_eq_some_iff.1 hx).1 (hs.back (pa j0) o ho (pa i) (hs.srcA j0 x o hx ho t ht i y hy hyd))
     omega).symm
    refine view_congr hts fun t ht s hsr => (hkeep s fun i y hi hy hyd => ?_).symm
    cases hc : c.has s with
    | false => exact hs.not_has hc hy hyd
    | true =>
      obtain ⟨i', y', hi', hy', hyd', hkn⟩ := hri t s hsr hc
      obtain ⟨l, z, hz, hzd, hmust⟩ := hs.kn_must i' hy' s hkn
      have hl' := hmust (fun k => decide (k < pa i')) (fun i o' ho' h1 l hl => by
       have := hs.back i o' ho' l hl
       simp only [decide_eq_true_eq] at h1 ⊢
       omega) (fun o' ho' l hl => by
       have := hs.back (pa i') o' ho' l hl
       simp only [decide_eq_true_eq]
       omega)
      simp only [decide_eq_true_eq] at hl'
      have hl' := hs.mono l i' (List.getElem?_eq_some_iff.1 hz).1 (List.getElem?_eq_some_iff.1 hy').1 hl'
      have := hs.inj i l y z s hy hz hyd hzd
      omega
   refine ⟨fun j => if j = j0 then av0 else av' j, e1, cs1, hK, hinv, hkeep, fun j y d' hj hy hyd => ?_, fun s => ?_⟩
   ·by_cases e' : j = j0
    ·subst e'
     rw [hx] at hy
     injection hy with hy
     subst hy
     rw [hxd] at hyd
     injection hyd with hyd
     subst hyd
     simp only [if_true]
     refine ⟨hval, hchk, ?_⟩
     rw [<- hview, <- hrr]
     exact hmk
    ·simp only [e', if_false]
     exact hall j y d' (by omega) hy hyd
   ·rw [hcs1, hcs']
    constructor
    ·rintro ((h | h) | ⟨j, y, hj, h⟩)
     ·exact .inl h
     ·exact .inr ⟨j0, x, by omega, hx, h⟩
     ·exact .inr ⟨j, y, by omega, h⟩
    ·rintro (h | ⟨j, y, hj, hy, h⟩)
     ·exact .inl (.inl h)
     ·by_cases e' : j = j0
      ·subst e'
       rw [hx] at hy
       injection hy with hy
       subst hy
       exact .inl (.inr h)
      ·exact .inr ⟨j, y, by omega, hy, h⟩
theorem mem_aft {o : Oper} {l : Nat} : l ∈ aft o ↔ ∃ e ∈ o.after, Region.binds .any e = true /\ e.on = l := by
 simp only [aft, List.mem_map, List.mem_filter, Array.mem_toList_iff]
 constructor
 ·rintro ⟨e, ⟨h1, h2⟩, h3⟩; exact ⟨e, h1, h2, h3⟩
 ·rintro ⟨e, h1, h2, h3⟩; exact ⟨e, ⟨h1, h2⟩, h3⟩
theorem deads_get (t : Nat) (e : Env) : ∀ (cs : List Nat), (deads cs e).get t = if t ∈ cs then .sv (.one .dead) else e.get t
 | [] => by simp [deads]
 | s :: cs => by
   simp only [deads, Env.get]
   by_cases h : s = t
   ·simp [h]
   ·rw [if_neg h, deads_get t e cs]
    have : (t ∈ s :: cs) ↔ t ∈ cs := by simp; omega
    simp only [this]
def isOn (listed : Array Bool) : Nat -> Bool := fun i => listed.getD i false
theorem isOn_set {listed : Array Bool} {j : Nat} (hj : j < listed.size) : isOn (listed.setIfInBounds j true) = also (isOn listed) j := by
 funext i
 unfold isOn also
 split
 ·rename_i e
  subst e
  simp [hj]
 ·rename_i e
  exact getD_set_ne false (fun h => e h.symm)
theorem any_ok (hs : Static N ops A B c pa pb) (hcn : ∀ (k : Nat) z, A[k]? = some z -> cn k = takes z.o.op) {av : Nat -> AV} (hrefs : ∀ (j : Nat) x, A[j]? = some x -> ((av j).refs.all fun s => !c.has s || x.kn.contains s) = true)
  {K : Env -> Prop} {cs : List Nat} (hcs : ∀ s, s ∈ cs ↔ ∃ (j : Nat) (x : DOp), A[j]? = some x /\ takes x.o.op = some s) (hq : ∀ e2 a w, K e2 -> Sim N B0 w0 S0 e2 a w -> Q .normal a w) :
  ∀ (fuel : Nat) (listed : Array Bool) (a : Act) (w : World) (m : Nat) (V env : Env), listed.size = ops.size -> listed.toList.count false <= fuel -> m <= B.length -> (∀ i, i < B.length -> isOn listed (pb i) = decide (i < m)) ->
   Down ops (isOn listed) -> RefInv c A V -> Obl P A c av cn (fun j => isOn listed (pa j)) V -> arunB P c A (B.drop m) V (fun e2 => K (deads cs e2)) -> Mid A cn (fun j => isOn listed (pa j)) V env -> Sim N B0 w0 S0 env a w -> wpAny P .any ops Q fuel listed a w := by
 have hend : ∀ (listed : Array Bool) (a : Act) (w : World) (m : Nat) (V env : Env), listed.size = ops.size -> m <= B.length -> (∀ i, i < B.length -> isOn listed (pb i) = decide (i < m)) ->
   arunB P c A (B.drop m) V (fun e2 => K (deads cs e2)) -> Mid A cn (fun j => isOn listed (pa j)) V env -> Sim N B0 w0 S0 env a w -> (∀ i, i < ops.size -> isOn listed i = true) -> Q .normal a w := by
  intro listed a w m V env hsz hm hon hrun hmid hsim hall
  have hmB : m = B.length := by
   rcases Nat.lt_or_ge m B.length with h | h
   ·have h1 := hon m h
    rw [hall _ (hs.inB m h)] at h1
    simp at h1
   ·omega
  subst hmB
  rw [List.drop_length] at hrun
  refine hq _ a w hrun (Sim.congr (fun t => ?_) hsim)
  rw [deads_get]
  split
  ·rename_i ht
   obtain ⟨k, z, hz, htz⟩ := (hcs t).1 ht
   have hk := (List.getElem?_eq_some_iff.1 hz).1
   exact hmid.gone k hk (hall (pa k) (hs.inA k hk)) t (by rw [hcn k z hz, htz])
  ·rename_i ht
   refine hmid.here t (fun j x hx _ => hall (pa j) (hs.inA j (List.getElem?_eq_some_iff.1 hx).1)) (fun k hk _ hc => ht ((hcs t).2 ?_))
   have hz := List.getElem?_eq_getElem hk
   exact ⟨k, _, hz, by rw [<- hcn k _ hz, hc]⟩
 have hready : ∀ (listed : Array Bool), listed.size = ops.size -> Region.ready .any ops listed = [] -> ∀ i, i < ops.size -> isOn listed i = true := by
  intro listed hsz hr i
  induction i using Nat.strongRecOn with
  | ind i ih =>
    intro hi
    cases hl : isOn listed i with
    | true => rfl
    | false =>
      have hin : i ∈ Region.ready .any ops listed := by
       rw [mem_ready]
       have ho := Array.getElem?_eq_getElem hi
       refine ⟨?_, _, ho, fun e he hb => ?_⟩
       ·unfold isOn at hl
        have hlt : i < listed.size := by omega
        simp only [Array.getD_eq_getD_getElem?, Array.getElem?_eq_getElem hlt, Option.getD_some] at hl ⊢
        exact hl
       ·have hlt := hs.back i _ ho e.on (mem_aft.2 ⟨e, he, hb, rfl⟩)
        exact ih e.on hlt (by omega)
      rw [hr] at hin
      cases hin
 intro fuel
 induction fuel with
 | zero =>
   intro listed a w m V env hsz hcount hm hon hdn hri hob hrun hmid hsim
   have hall : ∀ i, i < ops.size -> isOn listed i = true := by
    intro i hi
    cases hl : isOn listed i with
    | true => rfl
    | false =>
      have : false ∈ listed.toList := by
       have hlt : i < listed.size := by omega
       unfold isOn at hl
       simp only [Array.getD_eq_getD_getElem?, Array.getElem?_eq_getElem hlt, Option.getD_some] at hl
       rw [<- hl]
       exact Array.getElem_mem_toList hlt
      have := List.count_pos_iff.2 this
      omega
   refine ⟨?_, hend listed a w m V env hsz hm hon hrun hmid hsim hall⟩
   rw [List.eq_nil_iff_forall_not_mem]
   intro i hi
   obtain ⟨h1, o, ho, _⟩ := mem_ready.1 hi
   have hlt := (Array.getElem?_eq_some_iff.1 ho).1
   have h2 := hall i hlt
   unfold isOn at h2
   have hlt' : i < listed.size := by omega
   simp only [Array.getD_eq_getD_getElem?, Array.getElem?_eq_getElem hlt', Option.getD_some] at h1 h2
   rw [h1] at h2
   cases h2
 | succ fuel ih =>
   intro listed a w m V env hsz hcount hm hon hdn hri hob hrun hmid hsim
   refine ⟨fun hr => hend listed a w m V env hsz hm hon hrun hmid hsim (hready listed hsz hr), fun j hj => ?_⟩
   obtain ⟨hun, o, ho, haft⟩ := mem_ready.1 hj
   have hjn := (Array.getElem?_eq_some_iff.1 ho).1
   have hjl : j < listed.size := by omega
   have hE : isOn listed j = false := by
    unfold isOn
    simp only [Array.getD_eq_getD_getElem?, Array.getElem?_eq_getElem hjl, Option.getD_some] at hun ⊢
    exact hun
   have hr : Ready ops (isOn listed) j := by
    intro o' ho' l hl
    rw [ho] at ho'
    injection ho' with ho'
    subst ho'
    obtain ⟨e, he, hb, rfl⟩ := mem_aft.1 hl
    exact haft e he hb
   have hcount' : (listed.setIfInBounds j true).toList.count false <= fuel := by
    have hlt : j < listed.toList.length := by simpa using hjl
    have hf : listed.toList[j] = false := by
     unfold isOn at hE
     simp only [Array.getD_eq_getD_getElem?, Array.getElem?_eq_getElem hjl, Option.getD_some] at hE
     simpa using hE
    rw [Array.toList_setIfInBounds, List.count_set hlt]
    have hpos : 0 < listed.toList.count false := List.count_pos_iff.2 (hf ▸ List.getElem_mem hlt)
    simp [hf]
    simp at hcount hpos
    omega
   have hsz' : (listed.setIfInBounds j true).size = ops.size := by simpa using hsz
   have hon' := isOn_set hjl
   have hdn' := also_down hdn hr
   unfold wpOp
   rw [ho]
   dsimp only
   rcases hs.cover j hjn with ⟨ja, hjA, rfl⟩ | ⟨i, hiB, rfl⟩
   ·have hx := List.getElem?_eq_getElem hjA
    generalize hxe : A[ja] = x at hx
    obtain ⟨o', d, ho', hod, hxd, hop, hg, hgN, hdN, hcd⟩ := hs.opA ja x hx
    rw [ho] at ho'
    injection ho' with ho'
    subst ho'
    have hview := hmid.view hs hri hdn hcn (ts := x.o.ts) (fun t ht i y hy hyd => hr o ho (pa i) (hs.srcA ja x o hx ho t ht i y hy hyd)) (fun t ht k hk hEk hck => by
     have hz := List.getElem?_eq_getElem hk
     rw [hcn k _ hz] at hck
     obtain ⟨_, _, h3, _⟩ := hs.take k _ t hz hck
     have hkj := h3 ja x hx ht
     subst hkj
     simp only [hE] at hEk
     cases hEk)
    have hmk := hob.gk ja x hx hE
    rw [<- hview] at hmk
    have hxo : x.o = { dst := o.dst, op := o.op, g := x.o.g } := by
     rw [<- hop, hod, <- hxd]
    obtain ⟨rows, h⟩ := hsim
    have hroot : ∀ s, cn ja = some s -> ∃ y, env.root s = some y := by
     intro s hcs'
     rw [hcs'] at hmk
     obtain ⟨y, hy⟩ := gmk_root hmk
     exact ⟨y, under_root (view_under _ _) hy⟩
    have hstep : ∀ a' w', Sim N B0 w0 S0 ((env.loses ((cn ja).map (·, []))).put d (av ja)) a' w' -> wpAny P .any ops Q fuel (listed.setIfInBounds (pa ja) true) a' w' := by
     intro a' w' hs'
     refine ih _ a' w' m V _ hsz' hcount' hm (fun i hi => ?_) (by rw [hon']; exact hdn') hri ?_ hrun (by rw [hon']; exact hmid.stepA hs hri hdn hcn hx hxd hE hr (hob.val ja x d hx hxd hE) (hrefs ja x hx) hroot) hs'
     ·rw [hon', <- hon i hi]
      unfold also
      rw [if_neg (fun e => hs.far ja i hjA hi e.symm)]
     ·rw [hon']
      refine ⟨fun i y d' hy hyd hEi => hob.val i y d' hy hyd ?_, fun i y hy hEi => hob.gk i y hy ?_⟩ <;>
      ·unfold also at hEi
       split at hEi
       ·cases hEi
       ·exact hEi
    have hgk := gmk_ok (Q := Q) (next := wpAny P .any ops Q fuel (listed.setIfInBounds (pa ja) true)) h hg hgN (ts := x.o.ts) (av := av ja) (c := (cn ja).map (·, [])) (by rw [<- hxo]; exact hmk) hdN hod hstep
    split
    ·rename_i hw
     rw [if_pos hw] at hgk
     exact .inl hgk
    ·rename_i hw
     rw [if_neg hw] at hgk
     exact hgk
   ·have hmi : i = m := by
     have h1 := hon i hiB
     rw [hE] at h1
     have h2 : ¬ i < m := by simpa using h1.symm
     rcases Nat.lt_or_ge m i with h3 | h3
     ·have hb := List.getElem?_eq_getElem hiB
      have h4 := hs.mustB i _ hb m h3 (isOn listed) hdn hr
      rw [hon m (by omega)] at h4
      simp at h4
     ·omega
    subst hmi
    have hb := List.getElem?_eq_getElem hiB
    rw [List.drop_eq_getElem_cons hiB] at hrun
    generalize hbe : B[i] = b at hb hrun
    obtain ⟨o', ho', hbd, hbo, hbg, hdN⟩ := hs.opB i b hb
    rw [ho] at ho'
    injection ho' with ho'
    subst ho'
    obtain ⟨hgn, hbm⟩ := hrun
    obtain ⟨f, ⟨hf, hlate, hrun'⟩, hbm'⟩ := bmk_mono hbm
    have hview := hmid.view hs hri hdn hcn (ts := b.o.ts) (fun t ht l y hy hyd => hr o ho (pa l) (hs.srcB i b o hb ho t ht l y hy hyd)) (fun t ht k hk hEk hck => by
     have hz := List.getElem?_eq_getElem hk
     rw [hcn k _ hz] at hck
     exact (hs.take k _ t hz hck).2.2.2 i b hb ht)
    rw [<- hview, hbd, hbo] at hbm'
    obtain ⟨rows, h⟩ := hsim
    have hw : Region.wanted o (yielded ops a.tmps) = true := by
     rw [hgn] at hbg
     unfold slimGuard at hbg
     split at hbg
     ·rename_i hnone
      simp [Region.wanted, hnone]
     ·split at hbg <;> cases hbg
    rw [if_pos hw]
    refine .inl (bmk_ok h hbm' hdN fun a' w' hs' => ?_)
    refine ih _ a' w' (i + 1) (f.on V) (f.on env) hsz' hcount' (by omega) (fun k hk => ?_) (by rw [hon']; exact hdn') (hri.stepB hf) (by rw [hon']; exact hob.stepB hs hdn hcn hb hr hlate) hrun' (by rw [hon']; exact hmid.stepB hs hdn hcn hb hr hf) hs'
    rw [hon']
    unfold also
    split
    ·rename_i e
     have := hs.injB k i hk hiB e
     subst this
     simp
    ·rename_i e
     rw [hon k hk]
     have hne : k ≠ i := fun e' => e (by rw [e'])
     simp only [decide_eq_decide]
     omega
theorem xrun_ok (hs : Static N ops A B c pa pb) (hm : P.follows .mixedOrders = true) {K : Env -> Prop} (hk : xrun P c A B env K) {a : Act} {w : World} (hsim : Sim N B0 w0 S0 env a { w with drawn := w.drawn + 1 })
  (hq : ∀ e2 a w, K e2 -> Sim N B0 w0 S0 e2 a w -> Q .normal a w) {id : Nat} : (Code.region id ops true).wp P Q a w := by
 refine wp_region_any hm ?_
 obtain ⟨av, e1, cs, hK, hri, hfr, hall, hcs⟩ := arunA_get hs A 0 (clears c env) [] (fun i => by rw [Nat.zero_add]) (by simp) (fun t s h1 h2 => by
  rw [clears_get] at h1
  split at h1
  ·cases h1
  ·rename_i hc
   simp only [Bool.or_eq_true, not_or, List.any_eq_true, not_exists, not_and] at hc
   exact (hc.2 s h1 h2).elim) hk
 have hoff : isOn (Array.replicate ops.size false) = fun _ => false := by
  funext i
  unfold isOn
  simp [Array.getElem?_replicate]
  split <;> rfl
 refine any_ok (cn := fun j => (A[j]?).bind fun x => takes x.o.op) hs (fun k z hz => by simp [hz]) (av := av) (fun j x hx => ?_) (cs := cs) (fun s => ?_) hq ops.size _ a _ 0 e1 (clears c env) (by simp) ?_ (Nat.zero_le _) (fun i _ => by rw [hoff]; simp) ?_ hri ?_ (by simpa using hK) ?_ (hsim.clears c)
 ·obtain ⟨_, d, _, _, hxd, _⟩ := hs.opA j x hx
  exact (hall j x d (Nat.zero_le _) hx hxd).2.1
 ·rw [hcs]
  simp
 ·refine Nat.le_trans List.count_le_length ?_
  simp
 ·rw [hoff]
  intro i o _ h
  cases h
 ·rw [hoff]
  refine ⟨fun j x d hx hxd _ => (hall j x d (Nat.zero_le _) hx hxd).1, fun j x hx _ => ?_⟩
  obtain ⟨_, d, _, _, hxd, _⟩ := hs.opA j x hx
  have := (hall j x d (Nat.zero_le _) hx hxd).2.2
  simpa [hx] using this
 ·rw [hoff]
  refine ⟨fun j x d hx hxd _ => ?_, fun k _ h => (by cases h), fun t h1 _ => ?_⟩
  ·obtain ⟨_, d', _, _, g1, _, _, _, _, g2⟩ := hs.opA j x hx
   rw [hxd] at g1
   injection g1 with g1
   subst g1
   rw [clears_get, g2]
   rfl
  ·exact (hfr t (fun i x _ hx hxd => by
    have := h1 i x hx hxd
    cases this)).symm
end
end Go.Av
