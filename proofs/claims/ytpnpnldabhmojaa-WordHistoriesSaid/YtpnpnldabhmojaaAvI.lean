/- A place that is written, or whose row is handed on. -/
import Derived.Test.YtpnpnldabhmojaaAvH
set_option linter.unusedVariables false
set_option linter.unusedSimpArgs false
namespace Go.Av
open Go Go.RowKit

/-- The same form: as many elements, as many cells each. -/
structure Shape (x y : DV) : Prop where
  el : ∀ i el, x.elAt i = some el → ∃ el', y.elAt i = some el' ∧ el'.length = el.length
  base : ∀ u, rowBase u y = rowBase u x
  els : ∀ els, x.elsOf = some els → ∃ els', y.elsOf = some els' ∧ els'.length = els.length ∧ ∀ z, (∀ e ∈ els, e.length = z) → ∀ e ∈ els', e.length = z

theorem Shape.put {x : DV} {i j : Nat} {ds el : List DV} (he : x.elAt i = some el) (hj : j + ds.length ≤ el.length) : Shape x (x.put i j ds) := by
  cases x with
  | ow z els =>
    simp only [DV.elAt] at he
    have hlt : i < els.length := (List.getElem?_eq_some_iff.1 he).1
    have hee : els[i] = el := (List.getElem?_eq_some_iff.1 he).2
    refine ⟨?_, fun u => by cases u with | pointer a => cases a <;> rfl | slice a _ _ => cases a <;> rfl | _ => rfl, ?_⟩
    · intro k el' hk
      simp only [DV.elAt, DV.put, he, Option.getD_some] at hk ⊢
      by_cases e : i = k
      · subst e
        rw [he] at hk
        injection hk with hk
        subst hk
        exact ⟨splice el j ds, by simp [hlt], splice_length _ _ _ hj⟩
      · exact ⟨el', by rw [List.getElem?_set_ne e]; exact hk, rfl⟩
    · intro els' hs
      injection hs with hs
      subst hs
      refine ⟨_, rfl, by simp, fun z hz e h => ?_⟩
      simp only [he, Option.getD_some] at h
      rcases List.mem_or_eq_of_mem_set h with h | h
      · exact hz _ h
      · rw [h, splice_length _ _ _ hj]
        exact hz _ (by rw [← hee]; exact List.getElem_mem hlt)
  | bx l =>
    simp only [DV.elAt] at he
    split at he
    · injection he with he
      subst he
      refine ⟨?_, fun u => by cases u with | pointer a => cases a <;> rfl | slice a _ _ => cases a <;> rfl | _ => rfl, fun els' hs => by cases hs⟩
      intro k el' hk
      simp only [DV.elAt, DV.put] at hk ⊢
      split at hk
      · injection hk with hk
        subst hk
        rename_i hk0
        exact ⟨splice l j ds, by simp [hk0], splice_length _ _ _ hj⟩
      · cases hk
    · cases he
  | _ => simp [DV.elAt] at he

theorem Shape.setP {x y : DV} {p : List (Nat × Nat)} {q : Nat × Nat} {d : DV} (h : getP x (q :: p) = some y) : Shape x (setP x (q :: p) d) := by
  obtain ⟨i, j⟩ := q
  simp only [getP] at h
  split at h
  · rename_i el he
    split at h
    · rename_i c hc
      simp only [Av.setP, he, hc]
      exact Shape.put he (by have := (List.getElem?_eq_some_iff.1 hc).1; simp; omega)
    · cases h
  · cases h

def Env.setRoot (e : Env) (s : Nat) (x : DV) (n : Nat) : Env := (s, .sv (.one x)) :: Env.kill s n e

theorem Env.get_setRoot (e : Env) (s : Nat) (x : DV) (n t : Nat) : (e.setRoot s x n).get t = if s = t then .sv (.one x) else (e.get t).kill s n := by
  simp only [Env.setRoot, Env.get, Env.get_kill]

theorem Env.root_setRoot (e : Env) (s : Nat) (x : DV) (n t : Nat) : (e.setRoot s x n).root t = if s = t then some x else e.root t := by
  simp only [Env.root, Env.get_setRoot]
  split
  · rfl
  · rw [AV.asOne_kill]

/-- What is known stays known, where a root has changed its data but not its form. -/
theorem AVR.keepS {w w' : World} {S S' : Nat → Prop} {env env' : Env} {f f' : Nat → Value} (hS : ∀ b, S b → S' b ∧ w'.heap[b]? = w.heap[b]?) {s0 n0 : Nat}
    (hroot : ∀ s x p v y, (s ≠ s0 ∨ p.length < n0) → env.root s = some x → cat w (f s) x p = some (v, y) → ∃ x' y', env'.root s = some x' ∧ cat w' (f' s) x' p = some (v, y') ∧ Shape y y') :
    ∀ (av : AV) {v : Value} {r : List Nat}, AVR w S env f av v r → (∀ b ∈ r, w'.heap[b]? = w.heap[b]?) → AVR w' S' env' f' (av.kill s0 n0) v r
  | .no, _, _, h, _ => h
  | .undef, _, _, h, _ => h
  | .sv x, _, _, h, hr => CzS.keep hS h hr
  | .tup l, _, _, ⟨vs, h1, h2⟩, hr => ⟨vs, h1, h2.keep hS hr⟩
  | .al s p, v, r, h, hr => by
    obtain ⟨rfl, x, y, h1, h2⟩ := h
    simp only [AV.kill]
    split
    · trivial
    · rename_i hk
      obtain ⟨x', y', g1, g2, _⟩ := hroot s x p v y (by by_cases e : s = s0 <;> simp_all) h1 h2
      exact ⟨rfl, x', y', g1, g2⟩
  | .pt s p i j, v, r, h, hr => by
    obtain ⟨rfl, x, u, y, el, ad, h1, h2, h3, h4, h5⟩ := h
    simp only [AV.kill]
    split
    · trivial
    · rename_i hk
      obtain ⟨x', y', g1, g2, g3⟩ := hroot s x p u y (by by_cases e : s = s0 <;> simp_all) h1 h2
      obtain ⟨el', k1, k2⟩ := g3.el i el h3
      exact ⟨rfl, x', u, y', el', ad, g1, g2, k1, by rw [g3.base, h4], by rw [k2]; exact h5⟩
  | .sub s p lo hi, v, r, h, hr => by
    obtain ⟨rfl, x, y, A, n, c, els, h1, h2, h3, h4, h5, h6, h7, z, h8, h9⟩ := h
    simp only [AV.kill]
    split
    · trivial
    · rename_i hk
      obtain ⟨x', y', g1, g2, g3⟩ := hroot s x p _ y (by by_cases e : s = s0 <;> simp_all) h1 h2
      obtain ⟨els', k1, k2, k3⟩ := g3.els els h3
      exact ⟨rfl, x', y', A, n, c, els', g1, g2, k1, by omega, h5, h6, h7, z, k3 z h8, h9⟩
  | .bsl s p m, v, r, h, hr => by
    obtain ⟨rfl, x, u, y, el, ad, h1, h2, h3, h4, h6, h5⟩ := h
    simp only [AV.kill]
    split
    · trivial
    · rename_i hk
      obtain ⟨x', y', g1, g2, g3⟩ := hroot s x p u y (by by_cases e : s = s0 <;> simp_all) h1 h2
      obtain ⟨el', k1, k2⟩ := g3.el 0 el h3
      exact ⟨rfl, x', u, y', el', ad, g1, g2, k1, by rw [g3.base, h4], by rw [k2]; exact h6, h5⟩
  | .gd c a, v, r, h, hr => by
    obtain ⟨rfl, h1, h2⟩ := h
    exact ⟨rfl, fun hc => AVR.keepS hS hroot a (h1 hc) (by simp), h2⟩

theorem Shape.refl (x : DV) : Shape x x := ⟨fun _ el h => ⟨el, h, rfl⟩, fun _ => rfl, fun els h => ⟨els, h, rfl, fun _ h => h⟩⟩

section
variable {N B : Nat} {w0 : World} {S0 : Nat → Prop} {env : Env} {a : Act} {w w' : World} {rows : Nat → List Nat}

/-- A ROOT THAT IS WRITTEN: slot s keeps its value, what it leads to has changed. Its blocks alone have been written; new blocks may have been made. -/
theorem SimR.reroot (h : SimR N B w0 S0 env a w rows) {s : Nat} {x x' : DV} (hx : env.root s = some x) {n : Nat} (hsh : n = 0 ∨ (n = 1 ∧ Shape x x')) (hbel : Below B w w') {rs' : List Nat}
    (hown : ∀ b ∈ rs', (b ∈ rows s ∨ w.heap.size ≤ b) ∧ b < w'.heap.size) (hnd : rs'.Nodup) (hframe : ∀ b, b < w.heap.size → b ∉ rows s → w'.heap[b]? = w.heap[b]?)
    (hcz : ∀ S' : Nat → Prop, (∀ b, SS B S0 w rows b → S' b) → (∀ b ∈ rows s, b ∉ rs' → S' b) → Cz w' S' (Act.f a s) x' rs') :
    SimR N B w0 S0 (env.setRoot s x' n) a w' (fun t => if s = t then rs' else rows t) := by
  have hsz := hbel.size
  have hbase := h.base
  have hS : ∀ b, SS B S0 w rows b → SS B S0 w' (fun t => if s = t then rs' else rows t) b ∧ w'.heap[b]? = w.heap[b]? := by
    intro b hs
    have hlt := hs.lt h.old h.base
    have hns : b ∉ rows s := by
      rcases hs with hs | hs
      · intro hb
        have := h.old b hs
        have := h.own s b hb
        omega
      · exact hs.2.2 s
    refine ⟨?_, hframe b hlt hns⟩
    rcases hs with hs | ⟨h1, h2, h3⟩
    · exact .inl hs
    · refine .inr ⟨h1, by omega, fun t ht => ?_⟩
      dsimp only at ht
      split at ht
      · rcases (hown b ht).1 with g | g
        · exact hns g
        · omega
      · exact h3 t ht
  have hkeep : ∀ t, s ≠ t → ∀ b ∈ rows t, w'.heap[b]? = w.heap[b]? := fun t ht b hb => hframe b (h.own t b hb).2 (fun hb' => h.apart s t ht b hb' hb)
  refine ⟨h.defers, h.size, h.below.trans hbel, by omega, h.old, ?_, ?_, ?_, ?_⟩
  · intro t b hb
    split at hb
    · obtain ⟨h1, h2⟩ := hown b hb
      rcases h1 with h1 | h1
      · exact ⟨(h.own s b h1).1, h2⟩
      · exact ⟨by omega, h2⟩
    · have := h.own t b hb; omega
  · intro t
    split
    · exact hnd
    · exact h.nodup t
  · intro t t' hne b hb hb'
    split at hb
    · rename_i e
      split at hb'
      · omega
      · rcases (hown b hb).1 with g | g
        · exact h.apart s t' (by omega) b g hb'
        · have := h.own t' b hb'; omega
    · split at hb'
      · rcases (hown b hb').1 with g | g
        · exact h.apart t s (by omega) b hb g
        · have := h.own t b hb; omega
      · exact h.apart t t' hne b hb hb'
  · intro t
    rw [Env.get_setRoot]
    by_cases e : s = t
    · subst e
      simp only [if_true]
      refine .one _ _ _ (hcz _ (fun b hb => (hS b hb).1) (fun b hb hnb => ?_))
      have hown1 := h.own s b hb
      refine .inr ⟨hown1.1, by omega, fun t ht => ?_⟩
      dsimp only at ht
      split at ht
      · exact hnb ht
      · rename_i e
        exact h.apart s t e b hb ht
    · simp only [e, if_false]
      refine AVR.keepS hS (s0 := s) (n0 := n) ?_ (env.get t) (h.rel t) (hkeep t e)
      intro s' x1 p v y hs hx1 hc
      by_cases es : s = s'
      · subst es
        rcases hsh with rfl | ⟨rfl, hsh⟩
        · simp at hs
        · have hp : p = [] := by
            rcases hs with hs | hs
            · exact (hs rfl).elim
            · exact List.eq_nil_of_length_eq_zero (by omega)
          subst hp
          rw [hx] at hx1
          injection hx1 with hx1
          subst hx1
          simp only [cat, Option.some.injEq, Prod.mk.injEq] at hc
          obtain ⟨rfl, rfl⟩ := hc
          exact ⟨x', x', by simp [Env.root_setRoot], rfl, hsh⟩
      · refine ⟨x1, y, by rw [Env.root_setRoot, if_neg es, hx1], ?_, Shape.refl y⟩
        exact h.cat_keep (hkeep s' es) hx1 hc

/-- A ROW THAT IS HANDED ON: slot s gives up what it held at a place (or all that it held); slot d owns what has been made of it. -/
theorem SimR.consume (h : SimR N B w0 S0 env a w rows) {s d : Nat} (hd : d < N) {x x' : DV} (hx : env.root s = some x) {n : Nat} (hsh : n = 0 ∨ (n = 1 ∧ Shape x x')) (hbel : Below B w w') {rs' r' : List Nat}
    (hown : ∀ b ∈ rs', b ∈ rows s) (hnd : rs'.Nodup) (hown' : ∀ b ∈ r', (b ∈ rows s ∨ w.heap.size ≤ b) ∧ b < w'.heap.size) (hnd' : r'.Nodup) (hdis : ∀ b ∈ r', b ∉ rs')
    (hframe : ∀ b, b < w.heap.size → b ∉ rows s → w'.heap[b]? = w.heap[b]?)
    (hcz : ∀ S' : Nat → Prop, (∀ b, SS B S0 w rows b → S' b) → Cz w' S' (Act.f a s) x' rs') {v : Value} {y : SV}
    (hcy : ∀ S' : Nat → Prop, (∀ b, SS B S0 w rows b → S' b) → CzS w' S' v y r') :
    SimR N B w0 S0 ((env.setRoot s x' n).put d (.sv y)) (a.put (some d) v) w' (fun t => if d = t then r' else if s = t then rs' else rows t) := by
  have hsz := hbel.size
  have hbase := h.base
  have hr1 : ∀ b ∈ rs', (b ∈ rows s ∨ w.heap.size ≤ b) ∧ b < w'.heap.size := fun b hb => ⟨.inl (hown b hb), by have := h.own s b (hown b hb); omega⟩
  have h1 := h.reroot hx hsh hbel hr1 hnd hframe (fun S' h1 _ => hcz S' h1)
  have hS : ∀ b, SS B S0 w rows b → SS B S0 w' (fun t => if d = t then r' else if s = t then rs' else rows t) b ∧ w'.heap[b]? = w.heap[b]? := by
    intro b hs
    have hlt := hs.lt h.old h.base
    have hns : b ∉ rows s := by
      rcases hs with hs | hs
      · intro hb
        have := h.old b hs
        have := h.own s b hb
        omega
      · exact hs.2.2 s
    refine ⟨?_, hframe b hlt hns⟩
    rcases hs with hs | ⟨h1, h2, h3⟩
    · exact .inl hs
    · refine .inr ⟨h1, by omega, fun t ht => ?_⟩
      dsimp only at ht
      split at ht
      · rcases (hown' b ht).1 with g | g
        · exact hns g
        · omega
      · split at ht
        · exact hns (hown b ht)
        · exact h3 t ht
  have hkeep : ∀ t, s ≠ t → ∀ b ∈ rows t, w'.heap[b]? = w.heap[b]? := fun t ht b hb => hframe b (h.own t b hb).2 (fun hb' => h.apart s t ht b hb' hb)
  refine ⟨h1.defers, by simp [Act.put, h.size], h1.below, h1.base, h.old, ?_, ?_, ?_, ?_⟩
  · intro t b hb
    split at hb
    · obtain ⟨g1, g2⟩ := hown' b hb
      rcases g1 with g1 | g1
      · exact ⟨(h.own s b g1).1, g2⟩
      · exact ⟨by omega, g2⟩
    · exact h1.own t b hb
  · intro t
    split
    · exact hnd'
    · exact h1.nodup t
  · intro t t' hne b hb hb'
    have hmix : ∀ t, b ∈ r' → b ∈ (if s = t then rs' else rows t) → False := by
      intro t g1 g2
      split at g2
      · exact hdis b g1 g2
      · rename_i e
        rcases (hown' b g1).1 with g | g
        · exact h.apart s t e b g g2
        · have := h.own t b g2; omega
    split at hb
    · split at hb'
      · omega
      · exact hmix t' hb hb'
    · split at hb'
      · exact hmix t hb' hb
      · exact h1.apart t t' hne b hb hb'
  · intro t
    rw [Env.get_put, Act.f_put (by rw [h.size]; exact hd)]
    by_cases e : d = t
    · subst e
      simp only [if_true]
      exact hcy _ fun b hb => (hS b hb).1
    · simp only [e, if_false]
      have hstep : AVR w' (SS B S0 w' (fun t => if d = t then r' else if s = t then rs' else rows t)) (env.setRoot s x' n) (Act.f a) ((env.setRoot s x' n).get t) (Act.f a t) (if s = t then rs' else rows t) := by
        rw [Env.get_setRoot]
        by_cases es : s = t
        · subst es
          simp only [if_true]
          exact .one _ _ _ (hcz _ fun b hb => (hS b hb).1)
        · simp only [es, if_false]
          refine AVR.keepS hS (s0 := s) (n0 := n) ?_ (env.get t) (h.rel t) (hkeep t es)
          intro s' x1 p v y hs hx1 hc
          by_cases es' : s = s'
          · subst es'
            rcases hsh with rfl | ⟨rfl, hsh⟩
            · simp at hs
            · have hp : p = [] := by
                rcases hs with hs | hs
                · exact (hs rfl).elim
                · exact List.eq_nil_of_length_eq_zero (by omega)
              subst hp
              rw [hx] at hx1
              injection hx1 with hx1
              subst hx1
              simp only [cat, Option.some.injEq, Prod.mk.injEq] at hc
              obtain ⟨rfl, rfl⟩ := hc
              exact ⟨x', x', by simp [Env.root_setRoot], rfl, hsh⟩
          · refine ⟨x1, y, by rw [Env.root_setRoot, if_neg es', hx1], ?_, Shape.refl y⟩
            exact h.cat_keep (hkeep s' es') hx1 hc
      refine AVR.keep (w := w') (f := Act.f a) (fun b hb => ⟨hb, rfl⟩) (s0 := d) (n0 := 0) ?_ _ hstep (fun _ _ => rfl)
      intro s' x1 p v' y1 hs hx1 hc
      have hsd : d ≠ s' := by rcases hs with hs | hs; exact fun e => hs e.symm; omega
      refine ⟨x1, by rw [Env.root_put_ne _ _ hsd, hx1], ?_⟩
      rw [Act.f_put (by rw [h.size]; exact hd), if_neg hsd]
      exact hc
end

end Go.Av
