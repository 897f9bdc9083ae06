/- What an operation sees of what is known, and what it does to it. -/
import Derived.Test.YtpnpnldabhmojaaAvS
set_option linter.unusedVariables false
set_option linter.unusedSimpArgs false
namespace Go.Av
open Go Go.RowKit

def AV.refs : AV → List Nat
  | .al s _ => [s]
  | .pt s _ _ _ => [s]
  | .sub s _ _ _ => [s]
  | .bsl s _ _ => [s]
  | .gd _ a => a.refs
  | _ => []

def AV.own : AV → AV
  | .sv x => .sv x
  | _ => .no

/-- The slots that are looked at, and those that they lead to. -/
def view (e : Env) (ts : List Nat) : Env :=
  ts.map (fun t => (t, e.get t)) ++ ts.flatMap fun t => (e.get t).refs.map fun s => (s, (e.get s).own)

theorem get_map (f : Nat → AV) (t : Nat) : ∀ (l : List Nat) (r : Env), Env.get (l.map (fun t => (t, f t)) ++ r) t = if t ∈ l then f t else Env.get r t
  | [], r => by simp
  | s :: l, r => by
    simp only [List.map_cons, List.cons_append, Env.get]
    by_cases e : s = t
    · simp [e]
    · rw [if_neg e, get_map f t l r]
      have : (t ∈ s :: l) ↔ t ∈ l := by simp; omega
      simp only [this]

theorem view_get (e : Env) (ts : List Nat) (t : Nat) : (view e ts).get t = if t ∈ ts then e.get t else if ∃ u ∈ ts, t ∈ (e.get u).refs then (e.get t).own else .no := by
  unfold view
  rw [get_map]
  split
  · rfl
  · have key : ∀ (l : List Nat), Env.get (l.flatMap fun u => (e.get u).refs.map fun s => (s, (e.get s).own)) t = if ∃ u ∈ l, t ∈ (e.get u).refs then (e.get t).own else .no := by
      intro l
      induction l with
      | nil => simp [Env.get]
      | cons u l ih =>
        rw [List.flatMap_cons, get_map (fun s => (e.get s).own), ih]
        by_cases h1 : t ∈ (e.get u).refs
        · rw [if_pos h1, if_pos ⟨u, by simp, h1⟩]
        · rw [if_neg h1]
          have : (∃ v ∈ u :: l, t ∈ (e.get v).refs) ↔ ∃ v ∈ l, t ∈ (e.get v).refs := by
            constructor
            · rintro ⟨v, hv, hr⟩
              rcases List.mem_cons.1 hv with rfl | hv
              · exact (h1 hr).elim
              · exact ⟨v, hv, hr⟩
            · rintro ⟨v, hv, hr⟩
              exact ⟨v, by simp [hv], hr⟩
          simp only [this]
    exact key ts

theorem view_under (e : Env) (ts : List Nat) : (view e ts).under e := by
  intro t
  rw [view_get]
  split
  · exact .inr rfl
  · split
    · cases e.get t <;> simp [AV.own]
    · exact .inl rfl

theorem AV.own_asOne (a : AV) : a.own.asOne = a.asOne := by cases a <;> rfl

theorem view_root (e : Env) (ts : List Nat) {t s : Nat} (ht : t ∈ ts) (hs : s ∈ (e.get t).refs) : (view e ts).root s = e.root s := by
  unfold Env.root
  rw [view_get]
  split
  · rfl
  · rw [if_pos ⟨t, ht, hs⟩, AV.own_asOne]

theorem refOk_refs {e e' : Env} : ∀ (a : AV), (∀ s ∈ a.refs, e'.root s = e.root s) → a.refOk e e'
  | .gd _ a, h => refOk_refs a h
  | .al s _, h => h s (by simp [AV.refs])
  | .pt s _ _ _, h => h s (by simp [AV.refs])
  | .sub s _ _ _, h => h s (by simp [AV.refs])
  | .bsl s _ _, h => h s (by simp [AV.refs])
  | .no, _ => trivial
  | .undef, _ => trivial
  | .sv _, _ => trivial
  | .tup _, _ => trivial

/-- What two known things have in common in the places they lead to, where they have the same roots. -/
theorem view_congr {e e' : Env} {ts : List Nat} (h1 : ∀ t ∈ ts, e.get t = e'.get t) (h2 : ∀ t ∈ ts, ∀ s ∈ (e.get t).refs, e.get s = e'.get s) : view e ts = view e' ts := by
  unfold view
  have hm : ts.map (fun t => (t, e.get t)) = ts.map (fun t => (t, e'.get t)) := List.map_congr_left fun t ht => by rw [h1 t ht]
  have hf : (ts.flatMap fun t => (e.get t).refs.map fun s => (s, (e.get s).own)) = ts.flatMap fun t => (e'.get t).refs.map fun s => (s, (e'.get s).own) := by
    simp only [List.flatMap]
    congr 1
    refine List.map_congr_left fun t ht => ?_
    rw [← h1 t ht]
    exact List.map_congr_left fun s hs => by rw [h2 t ht s hs]
  rw [hm, hf]

section
variable {P : Program} {N B : Nat} {w0 : World} {S0 : Nat → Prop} {env : Env} {a : Act} {w : World} {rows : Nat → List Nat} {next : Act → World → Prop} {Q : Exit → Act → World → Prop}

theorem AVR.lift {S : Nat → Prop} {f : Nat → Value} {e' e : Env} (hu : e'.under e) : ∀ (av : AV) {v : Value} {r : List Nat}, AVR w S e' f av v r → AVR w S e f av v r
  | .no, _, _, h => h
  | .undef, _, _, h => h
  | .sv x, _, _, h => h
  | .tup l, _, _, h => h
  | .al s p, _, _, ⟨h0, x, y, h1, h2⟩ => ⟨h0, x, y, under_root hu h1, h2⟩
  | .pt s p i j, _, _, ⟨h0, x, u, y, el, ad, h1, h2⟩ => ⟨h0, x, u, y, el, ad, under_root hu h1, h2⟩
  | .sub s p lo hi, _, _, ⟨h0, x, y, A, n, c, els, h1, h2⟩ => ⟨h0, x, y, A, n, c, els, under_root hu h1, h2⟩
  | .bsl s p m, _, _, ⟨h0, x, u, y, el, ad, h1, h2⟩ => ⟨h0, x, u, y, el, ad, under_root hu h1, h2⟩
  | .gd c a, _, _, ⟨h0, h1, h2⟩ => ⟨h0, fun hc => AVR.lift hu a (h1 hc), h2⟩

theorem SimR.view (h : SimR N B w0 S0 env a w rows) (ts : List Nat) : SimR N B w0 S0 (Av.view env ts) a w rows := by
  refine ⟨h.defers, h.size, h.below, h.base, h.old, h.own, h.nodup, h.apart, fun t => ?_⟩
  rw [view_get]
  split
  · rename_i ht
    exact AVR.refKeep (fun _ h => h) _ (h.rel t) (refOk_refs _ fun s hs => view_root env ts ht hs)
  · split
    · have hr := h.rel t
      cases hg : env.get t <;> simp only [AV.own] <;> first | trivial | skip
      rw [hg] at hr
      exact hr
    · trivial

def SV.frz : SV → SV
  | .one x => .one x.frz
  | .ag l => .ag (frzL l)

def RV.frz : RV → RV
  | .one x => .one x.frz
  | .tup l => .tup (l.map SV.frz)

theorem CzS.freeze {S S' : Nat → Prop} (hS : ∀ b, S b → S' b) {v : Value} {x : SV} {rs : List Nat} (h : CzS w S v x rs) (hr : ∀ b ∈ rs, S' b) : CzS w S' v x.frz [] := by
  cases h with
  | one v x r h => exact .one _ _ _ (h.freeze hS hr)
  | ag vs l r h => exact .ag _ _ _ (h.freeze hS hr)

theorem CzSL.freeze {S S' : Nat → Prop} (hS : ∀ b, S b → S' b) {vs : List Value} {l : List SV} {rs : List Nat} (h : CzSL w S vs l rs) : (∀ b ∈ rs, S' b) → CzSL w S' vs (l.map SV.frz) [] := by
  induction h with
  | nil => intro _; exact .nil
  | cons v x r vs xs rs h _ ih =>
    intro hr
    have := CzSL.cons _ _ _ _ _ _ (h.freeze hS (fun b hb => hr b (by simp [hb]))) (ih (fun b hb => hr b (by simp [hb])))
    simpa using this

/-- What a slot owns is owned no more, and read under a condition. -/
theorem Sim.guard {d : Nat} {r : RV} (h : Sim N B w0 S0 (env.put d r.av) a w) : Sim N B w0 S0 (env.put d (.gd true r.frz.av)) a w := by
  obtain ⟨rows, h⟩ := h
  have hS : ∀ b, SS B S0 w rows b → SS B S0 w (fun t => if d = t then [] else rows t) b := by
    intro b hb
    rcases hb with hb | ⟨h1, h2, h3⟩
    · exact .inl hb
    · refine .inr ⟨h1, h2, fun t ht => ?_⟩
      dsimp only at ht
      split at ht
      · cases ht
      · exact h3 t ht
  have hd : ∀ b ∈ rows d, SS B S0 w (fun t => if d = t then [] else rows t) b := by
    intro b hb
    refine .inr ⟨(h.own d b hb).1, (h.own d b hb).2, fun t ht => ?_⟩
    dsimp only at ht
    split at ht
    · cases ht
    · rename_i e
      exact h.apart d t e b hb ht
  refine ⟨fun t => if d = t then [] else rows t, h.defers, h.size, h.below, h.base, h.old, ?_, ?_, ?_, fun t => ?_⟩
  · intro t b hb
    split at hb
    · cases hb
    · exact h.own t b hb
  · intro t
    split
    · exact List.nodup_nil
    · exact h.nodup t
  · intro t t' hne b hb hb'
    split at hb
    · cases hb
    · split at hb'
      · cases hb'
      · exact h.apart t t' hne b hb hb'
  · have hr := h.rel t
    rw [Env.get_put] at hr ⊢
    split
    · rename_i e
      subst e
      rw [if_pos rfl] at hr
      cases r with
      | one x => exact ⟨rfl, fun _ => CzS.freeze hS hr hd, fun hf => by cases hf⟩
      | tup l =>
        obtain ⟨vs, h1, h2⟩ := hr
        exact ⟨rfl, fun _ => ⟨vs, h1, h2.freeze hS hd⟩, fun hf => by cases hf⟩
    · rename_i e
      rw [if_neg e] at hr
      have hne : ∀ (b : AV) (s : Nat), s ∈ (b.kill d 0).refs → d ≠ s := by
        intro b
        induction b with
        | gd c b ih => exact ih
        | al s' p => intro s; simp only [AV.kill]; split <;> simp [AV.refs]; rintro rfl; simp_all; omega
        | pt s' p i j => intro s; simp only [AV.kill]; split <;> simp [AV.refs]; rintro rfl; simp_all; omega
        | sub s' p i j => intro s; simp only [AV.kill]; split <;> simp [AV.refs]; rintro rfl; simp_all; omega
        | bsl s' p i => intro s; simp only [AV.kill]; split <;> simp [AV.refs]; rintro rfl; simp_all; omega
        | _ => simp [AV.kill, AV.refs]
      refine AVR.refKeep hS _ hr (refOk_refs _ fun s hs => ?_)
      have := hne _ s hs
      rw [Env.root_put_ne _ _ this, Env.root_put_ne _ _ this]
end

end Go.Av
