/- What is known of a frame's slots, and that it holds of a frame and a world. -/
import Derived.Test.YtpnpnldabhmojaaAvB
set_option linter.unusedVariables false
set_option linter.unusedSimpArgs false
namespace Go.Av
open Go Go.RowKit

inductive SV where
  | one (x : DV)
  | ag (l : List DV)

inductive CzS (w : World) (S : Nat → Prop) : Value → SV → List Nat → Prop
  | one (v : Value) (x : DV) (rs : List Nat) (h : Cz w S v x rs) : CzS w S v (.one x) rs
  | ag (vs : Array Value) (l : List DV) (rs : List Nat) (h : CzL w S vs.toList l rs) : CzS w S (.agg vs) (.ag l) rs

inductive CzSL (w : World) (S : Nat → Prop) : List Value → List SV → List Nat → Prop
  | nil : CzSL w S [] [] []
  | cons (v : Value) (x : SV) (r : List Nat) (vs : List Value) (xs : List SV) (rs : List Nat) (h : CzS w S v x r) (hs : CzSL w S vs xs rs) : CzSL w S (v :: vs) (x :: xs) (r ++ rs)

theorem CzS.one_inv {w : World} {S : Nat → Prop} {v : Value} {x : DV} {rs : List Nat} (h : CzS w S v (.one x) rs) : Cz w S v x rs := by
  cases h with
  | one _ _ _ h => exact h

theorem CzS.keep {w w' : World} {S S' : Nat → Prop} (hS : ∀ b, S b → S' b ∧ w'.heap[b]? = w.heap[b]?) {v : Value} {x : SV} {rs : List Nat} (h : CzS w S v x rs) (hr : ∀ b ∈ rs, w'.heap[b]? = w.heap[b]?) : CzS w' S' v x rs := by
  cases h with
  | one v x rs h => exact .one v x rs (h.keep hS hr)
  | ag vs l rs h => exact .ag vs l rs (h.keep hS hr)

theorem CzSL.keep {w w' : World} {S S' : Nat → Prop} (hS : ∀ b, S b → S' b ∧ w'.heap[b]? = w.heap[b]?) {vs : List Value} {xs : List SV} {rs : List Nat} (h : CzSL w S vs xs rs) : (∀ b ∈ rs, w'.heap[b]? = w.heap[b]?) → CzSL w' S' vs xs rs := by
  induction h with
  | nil => exact fun _ => .nil
  | cons v x r vs xs rs h _ ih => exact fun hr => .cons v x r vs xs rs (h.keep hS (fun b hb => hr b (by simp [hb]))) (ih (fun b hb => hr b (by simp [hb])))

theorem CzSL.length {w : World} {S : Nat → Prop} {vs : List Value} {xs : List SV} {rs : List Nat} (h : CzSL w S vs xs rs) : vs.length = xs.length := by
  induction h with
  | nil => rfl
  | cons _ _ _ _ _ _ _ _ ih => simp [ih]

/-- What is known of a slot. -/
inductive AV where
  | no
  | undef
  | sv (x : SV)
  | tup (l : List SV)
  | al (s : Nat) (p : List (Nat × Nat))
  | pt (s : Nat) (p : List (Nat × Nat)) (i j : Nat)
  | sub (s : Nat) (p : List (Nat × Nat)) (lo hi : Nat)
  | bsl (s : Nat) (p : List (Nat × Nat)) (n : Nat)
  | gd (c : Bool) (a : AV)

abbrev Env := List (Nat × AV)

def Env.get : Env → Nat → AV
  | [], _ => .no
  | (s, a) :: e, t => if s = t then a else Env.get e t

/-- What leads to a place in slot s, n steps or more deep, is no longer known. -/
def AV.kill (s n : Nat) : AV → AV
  | .al s' p => if s' = s ∧ n ≤ p.length then .no else .al s' p
  | .pt s' p i j => if s' = s ∧ n ≤ p.length then .no else .pt s' p i j
  | .sub s' p i j => if s' = s ∧ n ≤ p.length then .no else .sub s' p i j
  | .bsl s' p m => if s' = s ∧ n ≤ p.length then .no else .bsl s' p m
  | .gd c a => .gd c (AV.kill s n a)
  | a => a

def Env.kill (s n : Nat) : Env → Env
  | [] => []
  | (t, a) :: e => (t, a.kill s n) :: Env.kill s n e

def AV.asOne : AV → Option DV
  | .sv (.one x) => some x
  | _ => none

theorem AV.asOne_kill (s n : Nat) (a : AV) : (a.kill s n).asOne = a.asOne := by
  cases a <;> simp only [AV.kill] <;> first | rfl | (split <;> rfl)

def Env.root (e : Env) (s : Nat) : Option DV := (e.get s).asOne

theorem Env.get_kill (s n : Nat) (e : Env) (t : Nat) : (Env.kill s n e).get t = (e.get t).kill s n := by
  induction e with
  | nil => rfl
  | cons x e ih =>
    obtain ⟨k, a⟩ := x
    simp only [Env.kill, Env.get]
    split
    · rfl
    · exact ih

def Env.put (e : Env) (d : Nat) (a : AV) : Env := (d, a.kill d 0) :: Env.kill d 0 e

theorem Env.get_put (e : Env) (d : Nat) (a : AV) (t : Nat) : (e.put d a).get t = if d = t then a.kill d 0 else (e.get t).kill d 0 := by
  simp only [Env.put, Env.get, Env.get_kill]

theorem Env.root_put_ne (e : Env) {d s : Nat} (a : AV) (h : d ≠ s) : (e.put d a).root s = e.root s := by
  simp only [Env.root, Env.get_put, h, if_false, AV.asOne_kill]

/-- The relation between what is known and a value, the blocks that it owns being r. 'f': the slots' values. -/
def AVR (w : World) (S : Nat → Prop) (env : Env) (f : Nat → Value) : AV → Value → List Nat → Prop
  | .no, _, _ => True
  | .undef, v, r => v = Go.undef ∧ r = []
  | .sv x, v, r => CzS w S v x r
  | .tup l, v, r => ∃ vs : Array Value, v = .tuple vs ∧ CzSL w S vs.toList l r
  | .al s p, v, r => r = [] ∧ ∃ x y, env.root s = some x ∧ cat w (f s) x p = some (v, y)
  | .pt s p i j, v, r => r = [] ∧ ∃ x u y el ad, env.root s = some x ∧ cat w (f s) x p = some (u, y) ∧ y.elAt i = some el ∧ rowBase u y = some ad ∧ v = .pointer (some (ad.add (i * el.length + j)))
  | .sub s p lo hi, v, r => r = [] ∧ ∃ x y A n c els, env.root s = some x ∧ cat w (f s) x p = some (.slice A n c, y) ∧ y.elsOf = some els ∧ els.length = n ∧ lo ≤ hi ∧ hi ≤ n ∧ n ≤ c ∧
      ∃ z, (∀ e ∈ els, e.length = z) ∧ v = .slice (if c = lo then A else A.map (·.add (lo * z))) (hi - lo) (c - lo)
  | .bsl s p n, v, r => r = [] ∧ ∃ x u y el ad, env.root s = some x ∧ cat w (f s) x p = some (u, y) ∧ y.elAt 0 = some el ∧ rowBase u y = some ad ∧ el.length = n ∧ v = .slice (some ad) n n
  | .gd c a, v, r => r = [] ∧ (c = true → AVR w S env f a v []) ∧ (c = false → v = Go.undef)

/-- Memory that is neither older nor owned, and what of the older memory is read. -/
def SS (B : Nat) (S0 : Nat → Prop) (w : World) (rows : Nat → List Nat) : Nat → Prop := fun b => S0 b ∨ (B ≤ b ∧ b < w.heap.size ∧ ∀ t, b ∉ rows t)

def Act.f (a : Act) : Nat → Value := fun t => a.tmps.getD t Go.undef

structure SimR (N B : Nat) (w0 : World) (S0 : Nat → Prop) (env : Env) (a : Act) (w : World) (rows : Nat → List Nat) : Prop where
  defers : a.defers = []
  size : a.tmps.size = N
  below : Below B w0 w
  base : B ≤ w.heap.size
  old : ∀ b, S0 b → b < B
  own : ∀ t, ∀ b ∈ rows t, B ≤ b ∧ b < w.heap.size
  nodup : ∀ t, (rows t).Nodup
  apart : ∀ t t', t ≠ t' → ∀ b ∈ rows t, b ∉ rows t'
  rel : ∀ t, AVR w (SS B S0 w rows) env (Act.f a) (env.get t) (Act.f a t) (rows t)

def Sim (N B : Nat) (w0 : World) (S0 : Nat → Prop) (env : Env) (a : Act) (w : World) : Prop := ∃ rows, SimR N B w0 S0 env a w rows

/-- What is known stays known, if no block that it leans on has turned. -/
theorem AVR.keep {w w' : World} {S S' : Nat → Prop} {env env' : Env} {f f' : Nat → Value} (hS : ∀ b, S b → S' b ∧ w'.heap[b]? = w.heap[b]?) {s0 n0 : Nat}
    (hroot : ∀ s x p v y, (s ≠ s0 ∨ p.length < n0) → env.root s = some x → cat w (f s) x p = some (v, y) → ∃ x', env'.root s = some x' ∧ cat w' (f' s) x' p = some (v, y)) :
    ∀ (av : AV) {v : Value} {r : List Nat}, AVR w S env f av v r → (∀ b ∈ r, w'.heap[b]? = w.heap[b]?) → AVR w' S' env' f' (av.kill s0 n0) v r
  | .no, _, _, h, _ => h
  | .undef, _, _, h, _ => h
  | .sv x, _, _, h, hr => CzS.keep hS h hr
  | .tup l, _, _, ⟨vs, h1, h2⟩, hr => ⟨vs, h1, h2.keep hS hr⟩
  | .al s p, v, r, h, hr => by
    obtain ⟨rfl, x, y, h1, h2⟩ := h
    simp only [AV.kill]
    split
    · trivial
    · rename_i hk
      obtain ⟨x', g1, g2⟩ := hroot s x p v y (by by_cases e : s = s0 <;> simp_all) h1 h2
      exact ⟨rfl, x', y, g1, g2⟩
  | .pt s p i j, v, r, h, hr => by
    obtain ⟨rfl, x, u, y, el, ad, h1, h2, h3, h4, h5⟩ := h
    simp only [AV.kill]
    split
    · trivial
    · rename_i hk
      obtain ⟨x', g1, g2⟩ := hroot s x p u y (by by_cases e : s = s0 <;> simp_all) h1 h2
      exact ⟨rfl, x', u, y, el, ad, g1, g2, h3, h4, h5⟩
  | .sub s p lo hi, v, r, h, hr => by
    obtain ⟨rfl, x, y, A, n, c, els, h1, h2, h3⟩ := h
    simp only [AV.kill]
    split
    · trivial
    · rename_i hk
      obtain ⟨x', g1, g2⟩ := hroot s x p _ y (by by_cases e : s = s0 <;> simp_all) h1 h2
      exact ⟨rfl, x', y, A, n, c, els, g1, g2, h3⟩
  | .bsl s p m, v, r, h, hr => by
    obtain ⟨rfl, x, u, y, el, ad, h1, h2, h3⟩ := h
    simp only [AV.kill]
    split
    · trivial
    · rename_i hk
      obtain ⟨x', g1, g2⟩ := hroot s x p u y (by by_cases e : s = s0 <;> simp_all) h1 h2
      exact ⟨rfl, x', u, y, el, ad, g1, g2, h3⟩
  | .gd c a, v, r, h, hr => by
    obtain ⟨rfl, h1, h2⟩ := h
    exact ⟨rfl, fun hc => AVR.keep hS hroot a (h1 hc) (by simp), h2⟩

theorem SS.lt {B : Nat} {S0 : Nat → Prop} {w : World} {rows : Nat → List Nat} (h0 : ∀ b, S0 b → b < B) (hB : B ≤ w.heap.size) {b : Nat} (h : SS B S0 w rows b) : b < w.heap.size := by
  rcases h with h | h
  · have := h0 b h; omega
  · exact h.2.1

theorem Act.f_put {a : Act} {d : Nat} {v : Value} (hd : d < a.tmps.size) (t : Nat) : Act.f (a.put (some d) v) t = if d = t then v else Act.f a t := by
  simp only [Act.f, Act.put, Array.getD_eq_getD_getElem?, Array.getElem?_setIfInBounds]
  by_cases h : d = t
  · simp [h]; subst h; simp [hd]
  · simp [h]

/-- A roots' value is the same in a later world, if nothing that is owned has turned. -/
theorem SimR.cat_keep {N B : Nat} {w0 : World} {S0 : Nat → Prop} {env : Env} {a : Act} {w w' : World} {rows : Nat → List Nat} (h : SimR N B w0 S0 env a w rows) {s : Nat} (hk : ∀ b ∈ rows s, w'.heap[b]? = w.heap[b]?)
    {x : DV} {p : List (Nat × Nat)} {v : Value} {y : DV} (hx : env.root s = some x) (hc : cat w (Act.f a s) x p = some (v, y)) : cat w' (Act.f a s) x p = some (v, y) := by
  have hr := h.rel s
  unfold Env.root AV.asOne at hx
  split at hx
  · rename_i x' he
    rw [he] at hr
    injection hx with hx
    subst hx
    exact (CzS.one_inv hr).cat_keep p hk hc
  · cases hx

/-- THE STEP THAT WRITES A SLOT: the world has grown by new blocks, of which the slot's new value owns r. -/
theorem SimR.put {N B : Nat} {w0 : World} {S0 : Nat → Prop} {env : Env} {a : Act} {w w' : World} {rows : Nat → List Nat} (h : SimR N B w0 S0 env a w rows) {d : Nat} (hd : d < N) (hb : Below w.heap.size w w')
    {av : AV} {v : Value} {r : List Nat} (hr : ∀ b ∈ r, w.heap.size ≤ b ∧ b < w'.heap.size) (hn : r.Nodup)
    (hv : AVR w' (fun b => SS B S0 w rows b ∨ (w.heap.size ≤ b ∧ b < w'.heap.size ∧ b ∉ r)) env (Act.f a) av v r) :
    SimR N B w0 S0 (env.put d av) (a.put (some d) v) w' (fun t => if d = t then r else rows t) := by
  have hsz := hb.size
  have hbase := h.base
  have hS : ∀ b, SS B S0 w rows b → SS B S0 w' (fun t => if d = t then r else rows t) b ∧ w'.heap[b]? = w.heap[b]? := by
    intro b hs
    have hlt := hs.lt h.old h.base
    refine ⟨?_, hb.block b hlt⟩
    rcases hs with hs | ⟨h1, h2, h3⟩
    · exact .inl hs
    · refine .inr ⟨h1, by omega, fun t ht => ?_⟩
      dsimp only at ht
      split at ht
      · have := hr b ht; omega
      · exact h3 t ht
  have hkeep : ∀ t b, b ∈ rows t → w'.heap[b]? = w.heap[b]? := fun t b hbt => hb.block b (h.own t b hbt).2
  refine ⟨h.defers, ?_, ?_, by omega, h.old, ?_, ?_, ?_, ?_⟩
  · simp [Act.put, h.size]
  · exact h.below.trans (hb.mono hbase)
  · intro t b hbt
    split at hbt
    · have := hr b hbt; omega
    · have := h.own t b hbt; omega
  · intro t
    split
    · exact hn
    · exact h.nodup t
  · intro t t' hne b hbt hbt'
    split at hbt
    · split at hbt'
      · omega
      · have := hr b hbt; have := h.own t' b hbt'; omega
    · split at hbt'
      · have := hr b hbt'; have := h.own t b hbt; omega
      · exact h.apart t t' hne b hbt hbt'
  · intro t
    rw [Env.get_put, Act.f_put (by rw [h.size]; exact hd)]
    have hroot : ∀ s x p v' y, (s ≠ d ∨ p.length < 0) → env.root s = some x → cat w (Act.f a s) x p = some (v', y) → ∃ x', (env.put d av).root s = some x' ∧ cat w' (Act.f (a.put (some d) v) s) x' p = some (v', y) := by
      intro s x p v' y hs hx hc
      have hsd : d ≠ s := by rcases hs with hs | hs; exact fun e => hs e.symm; omega
      refine ⟨x, by rw [Env.root_put_ne env av hsd, hx], ?_⟩
      rw [Act.f_put (by rw [h.size]; exact hd), if_neg hsd]
      exact h.cat_keep (hkeep s) hx hc
    by_cases e : d = t
    · simp only [e, if_true]
      subst e
      refine AVR.keep (w := w') (f := Act.f a) ?_ (s0 := d) (n0 := 0) ?_ av hv (fun _ _ => rfl)
      · intro b hs
        refine ⟨?_, rfl⟩
        rcases hs with hs | ⟨h1, h2, h3⟩
        · exact (hS b hs).1
        · refine .inr ⟨by omega, h2, fun t ht => ?_⟩
          dsimp only at ht
          split at ht
          · exact h3 ht
          · have := h.own t b ht; omega
      · intro s x p v' y hs hx hc
        have hsd : d ≠ s := by rcases hs with hs | hs; exact fun e => hs e.symm; omega
        refine ⟨x, by rw [Env.root_put_ne env av hsd, hx], ?_⟩
        rw [Act.f_put (by rw [h.size]; exact hd), if_neg hsd]
        exact hc
    · simp only [e, if_false]
      exact AVR.keep hS hroot (env.get t) (h.rel t) (hkeep t)

end Go.Av
