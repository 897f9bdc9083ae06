/- Part of a proof. -/
import Derived.Test.YtbfebdbdoclagaaGreatDoorF5
set_option linter.unusedVariables false
set_option linter.unusedSimpArgs false
set_option maxHeartbeats 64000000
namespace Go.Av
open Go Go.RowKit
def Env.under (e' e : Env) : Prop := ∀ t, e'.get t = .no \/ e'.get t = e.get t
section
variable {e' e : Env}
theorem under_root (h : e'.under e) {s : Nat} {x : DV} (hx : e'.root s = some x) : e.root s = some x := by
 rcases h s with h1 | h1
 ·rw [Env.root, h1] at hx; cases hx
 ·rw [Env.root, <- h1]; exact hx
theorem under_at (h : e'.under e) {s : Nat} {p : List (Nat × Nat)} {y : DV} (hx : e'.at s p = some y) : e.at s p = some y := by
 unfold Env.at at *
 split at hx
 ·rename_i x hr
  rw [under_root h hr]
  exact hx
 ·cases hx
theorem under_opd (h : e'.under e) (x : Operand) : opd e' x = .no \/ opd e' x = opd e x := by
 cases x with
 | tmp t =>
   rcases h t with h1 | h1
   ·left
    show (e'.get t).asOpd t = .no
    rw [h1]
    rfl
   ·right
    show (e'.get t).asOpd t = (e.get t).asOpd t
    rw [h1]
 | _ => right; rfl
theorem under_opd_eq (h : e'.under e) {x : Operand} {v : AV} (hx : opd e' x = v) (hn : v ≠ .no) : opd e x = v := by
 rcases under_opd h x with h1 | h1
 ·rw [h1] at hx; exact (hn hx.symm).elim
 ·rw [<- h1]; exact hx
theorem under_box (h : e'.under e) {P : Program} {o : Op} {l : List DV} (hx : abox e' o P = some l) : abox e o P = some l := by
 unfold abox at *
 split at hx
 ·split at hx
  ·rename_i y hy
   rw [under_opd_eq h hy (by simp)]
   exact hx
  ·cases hx
 ·exact hx
 ·cases hx
theorem under_parts (h : e'.under e) : ∀ (l : List (Nat × Operand)) {r : List (Nat × List DV)}, partsOf e' l = some r -> partsOf e l = some r
 | [], _, hx => hx
 | (i, x) :: rest, r, hx => by
   simp only [partsOf] at *
   split at hx
   ·rename_i y l hy hl
    rw [under_opd_eq h hy (by simp), under_parts h rest hl]
    exact hx
   ·cases hx
theorem under_buildSlice (h : e'.under e) {P : Program} {t : TypeId} {len : Nat} {parts : Array (Nat × Operand)} {x : DV} (hx : abuildSlice P e' t len parts = some x) : abuildSlice P e t len parts = some x := by
 unfold abuildSlice at *
 split at hx
 ·split at hx
  ·split at hx
   ·rename_i dp hdp
    rw [under_parts h _ hdp]
    exact hx
   ·cases hx
  ·cases hx
 ·cases hx
theorem under_make (h : e'.under e) {P : Program} {t : TypeId} {len cap : Operand} {ob : Prop} {x : DV} (hx : amake P e' t len cap = some (ob, x)) : amake P e t len cap = some (ob, x) := by
 unfold amake at *
 split at hx
 ·split at hx
  ·split at hx
   ·rename_i h1 h2
    rw [under_opd_eq h h1 (by simp), under_opd_eq h h2 (by simp)]
    exact hx
   ·cases hx
  ·cases hx
 ·cases hx
theorem under_sliceOf (h : e'.under e) {a : AV} {els : List (List DV)} (hx : sliceOf e' a = some els) : sliceOf e a = some els := by
 unfold sliceOf at *
 split at hx
 ·exact hx
 ·split at hx
  ·rename_i y hy
   rw [under_at h hy]
   exact hx
  ·cases hx
 ·split at hx
  ·rename_i y hy
   rw [under_at h hy]
   exact hx
  ·cases hx
 ·cases hx
theorem sliceOf_no {els : List (List DV)} : sliceOf e .no ≠ some els := by simp [sliceOf]
def AV.given : AV -> Option (Nat × List (Nat × Nat))
 | .al s p => some (s, p)
 | _ => none
def Env.loses (e : Env) : Option (Nat × List (Nat × Nat)) -> Env
 | some (s, p) => e.give s p
 | none => e
def appendOn (e : Env) : Op -> Option (Nat × List (Nat × Nat))
 | .call c => match c.args.toList with
   | x :: _ => (opd e x).given
   | _ => none
 | _ => none
theorem under_append (h : e'.under e) {P : Program} {o : Op} {ob : Prop} {e2 : Env} {x : DV} (hx : aappend P e' o = some (ob, e2, x)) : e2 = e'.loses (appendOn e' o) /\ appendOn e o = appendOn e' o /\ aappend P e o = some (ob, e.loses (appendOn e' o), x) := by
 unfold aappend at hx
 split at hx
 ·rename_i c
  split at hx
  ·rename_i X Y t t' hcal hargs htys
   split at hx
   ·rename_i el _ h1 h2
    split at hx
    ·rename_i z bz _ h3 h4 h5
     split at hx
     ·rename_i news hs
      have hs' : sliceOf e (opd e Y) = some news := by
       rcases under_opd h Y with h6 | h6
       ·rw [h6] at hs; exact (sliceOf_no hs).elim
       ·rw [<- h6]; exact under_sliceOf h hs
      split at hx
      ·rename_i hX
       have hX' := under_opd_eq h hX (by simp)
       simp only [Option.some.injEq, Prod.mk.injEq] at hx
       obtain ⟨rfl, rfl, rfl⟩ := hx
       simp only [appendOn, hargs, hX, hX', AV.given, Env.loses, aappend, hcal, htys, h1, h2, h3, h4, h5, hs', and_self]
      ·rename_i s p hX
       have hX' := under_opd_eq h hX (by simp)
       split at hx
       ·rename_i z' els hat
        have hat' := under_at h hat
        simp only [Option.some.injEq, Prod.mk.injEq] at hx
        obtain ⟨rfl, rfl, rfl⟩ := hx
        simp only [appendOn, hargs, hX, hX', AV.given, Env.loses, aappend, hcal, htys, h1, h2, h3, h4, h5, hs', hat', and_self]
       ·cases hx
      ·cases hx
     ·cases hx
    ·cases hx
   ·cases hx
  ·cases hx
 ·cases hx
theorem under_roots (h : e'.under e) : ∀ (ss : List Nat) {l : List DV}, rootsFrz e' ss = some l -> rootsFrz e ss = some l
 | [], _, hx => hx
 | s :: ss, l, hx => by
   simp only [rootsFrz] at *
   split at hx
   ·rename_i x l' h1 h2
    rw [under_root h h1, under_roots h ss h2]
    exact hx
   ·cases hx
theorem under_arg (h : e'.under e) {a : AV} {y : SV} (hx : argOf e' a = some y) : argOf e a = some y /\ a.owned e' = a.owned e := by
 unfold argOf at hx
 split at hx
 ·exact ⟨hx, rfl⟩
 ·rename_i x hne
  refine ⟨?_, rfl⟩
  unfold argOf
  split
  ·rename_i heq
   injection heq with heq
   exact (hne heq).elim
  ·rename_i heq
   injection heq with heq
   rw [<- heq]
   exact hx
  ·rename_i heq; cases heq
  ·rename_i heq; cases heq
  ·rename_i heq; cases heq
  ·rename_i heq; cases heq
  ·rename_i heq; cases heq
  ·rename_i h1 h2 h3 h4 h5 h6 h7
   exact (h2 x rfl).elim
 ·rename_i s p
  split at hx
  ·rename_i y' hat
   have hat' := under_at h hat
   simp only [argOf, hat', AV.owned, hat]
   exact ⟨hx, trivial⟩
  ·cases hx
 ·rename_i s p lo hi
  split at hx
  ·rename_i z els hat
   have hat' := under_at h hat
   simp only [argOf, hat', AV.owned]
   exact ⟨hx, trivial⟩
  ·cases hx
 ·rename_i s p n
  split at hx
  ·rename_i l hat
   have hat' := under_at h hat
   simp only [argOf, hat', AV.owned]
   exact ⟨hx, trivial⟩
  ·cases hx
 ·rename_i g caps
  split at hx
  ·rename_i l hl
   simp only [argOf, under_roots h caps hl, AV.owned]
   exact ⟨hx, trivial⟩
  ·cases hx
 ·rename_i s p i
  split at hx
  ·rename_i y' hat
   have hat' := under_at h hat
   simp only [argOf, hat', AV.owned]
   exact ⟨hx, trivial⟩
  ·cases hx
 ·cases hx
theorem under_args (h : e'.under e) : ∀ (xs : List Operand) {ys : List SV}, argsOf e' xs = some ys -> argsOf e xs = some ys /\ xs.any (fun x => (opd e' x).owned e') = xs.any (fun x => (opd e x).owned e)
 | [], _, hx => ⟨hx, rfl⟩
 | x :: xs, ys, hx => by
   simp only [argsOf] at *
   split at hx
   ·rename_i y ys' h1 h2
    obtain ⟨g1, g2⟩ := under_args h xs h2
    have h3 : opd e' x = opd e x := by
     rcases under_opd h x with h4 | h4
     ·rw [h4] at h1; simp [argOf] at h1
     ·exact h4
    obtain ⟨g3, g4⟩ := under_arg h h1
    rw [h3] at g3
    rw [g3, g1]
    refine ⟨hx, ?_⟩
    simp only [List.any_cons, g2]
    rw [h3] at g4 ⊢
    rw [g4]
   ·cases hx
theorem under_call (h : e'.under e) {o : Op} {f : FuncId} {ys : List SV} {b : Bool} (hx : acall e' o = some (f, ys, b)) : acall e o = some (f, ys, b) := by
 unfold acall at *
 split at hx
 ·split at hx
  ·split at hx
   ·rename_i ys' hys
    obtain ⟨g1, g2⟩ := under_args h _ hys
    rw [g1, <- g2]
    exact hx
   ·cases hx
  ·cases hx
 ·cases hx
theorem under_fn (h : e'.under e) {t : Nat} {r : FuncId × List DV × Bool} (hx : fnOf e' t = some r) : fnOf e t = some r := by
 unfold fnOf at *
 have ho := under_opd h (.tmp t)
 simp only [opd] at ho
 rcases ho with ho | ho
 ·rw [ho] at hx; cases hx
 ·rw [<- ho]
  split at hx
  ·exact hx
  ·split at hx
   ·rename_i l hl
    rw [under_roots h _ hl]
    exact hx
   ·cases hx
  ·cases hx
theorem under_callF (h : e'.under e) {o : Op} {f : FuncId} {ys : List SV} {b : Bool} (hx : acallF e' o = some (f, ys, b)) : acallF e o = some (f, ys, b) := by
 unfold acallF at *
 split at hx
 ·split at hx
  ·split at hx
   ·rename_i g caps own hg
    rw [under_fn h hg]
    split at hx
    ·rename_i ys' hys
     obtain ⟨g1, g2⟩ := under_args h _ hys
     simp only [g1, <- g2]
     exact hx
    ·cases hx
   ·cases hx
  ·cases hx
 ·cases hx
end
end Go.Av
namespace Go.Av
open Go Go.RowKit
def AV.refs : AV -> List Nat
 | .al s _ => [s]
 | .pt s _ _ _ => [s]
 | .sub s _ _ _ => [s]
 | .bsl s _ _ => [s]
 | .gd _ a => a.refs
 | .eqv s _ => [s]
 | .cl _ caps => caps
 | .agl s _ _ => [s]
 | _ => []
def AV.own : AV -> AV
 | .sv x => .sv x
 | _ => .no
def view (e : Env) (ts : List Nat) : Env :=
 ts.map (fun t => (t, e.get t)) ++ ts.flatMap fun t => (e.get t).refs.map fun s => (s, (e.get s).own)
theorem get_map (f : Nat -> AV) (t : Nat) : ∀ (l : List Nat) (r : Env), Env.get (l.map (fun t => (t, f t)) ++ r) t = if t ∈ l then f t else Env.get r t
 | [], r => by simp
 | s :: l, r => by
   simp only [List.map_cons, List.cons_append, Env.get]
   by_cases e : s = t
   ·simp [e]
   ·rw [if_neg e, get_map f t l r]
    have : (t ∈ s :: l) ↔ t ∈ l := by simp; omega
    simp only [this]
theorem view_get (e : Env) (ts : List Nat) (t : Nat) : (view e ts).get t = if t ∈ ts then e.get t else if ∃ u ∈ ts, t ∈ (e.get u).refs then (e.get t).own else .no := by
 unfold view
 rw [get_map]
 split
 ·rfl
 ·have key : ∀ (l : List Nat), Env.get (l.flatMap fun u => (e.get u).refs.map fun s => (s, (e.get s).own)) t = if ∃ u ∈ l, t ∈ (e.get u).refs then (e.get t).own else .no := by
   intro l
   induction l with
   | nil => simp [Env.get]
   | cons u l ih =>
     rw [List.flatMap_cons, get_map (fun s => (e.get s).own), ih]
     by_cases h1 : t ∈ (e.get u).refs
     ·rw [if_pos h1, if_pos ⟨u, by simp, h1⟩]
     ·rw [if_neg h1]
      have : (∃ v ∈ u :: l, t ∈ (e.get v).refs) ↔ ∃ v ∈ l, t ∈ (e.get v).refs := by
       constructor
       ·rintro ⟨v, hv, hr⟩
        rcases List.mem_cons.1 hv with rfl | hv
        ·exact (h1 hr).elim
        ·exact ⟨v, hv, hr⟩
       ·rintro ⟨v, hv, hr⟩
        exact ⟨v, by simp [hv], hr⟩
      simp only [this]
  exact key ts
theorem view_under (e : Env) (ts : List Nat) : (view e ts).under e := by
 intro t
 rw [view_get]
 split
 ·exact .inr rfl
 ·split
  ·cases e.get t <;> simp [AV.own]
  ·exact .inl rfl
theorem AV.own_asOne (a : AV) : a.own.asOne = a.asOne := by cases a <;> rfl
theorem view_root (e : Env) (ts : List Nat) {t s : Nat} (ht : t ∈ ts) (hs : s ∈ (e.get t).refs) : (view e ts).root s = e.root s := by
 unfold Env.root
 rw [view_get]
 split
 ·rfl
 ·rw [if_pos ⟨t, ht, hs⟩, AV.own_asOne]
theorem refOk_refs {e e' : Env} : ∀ (a : AV), (∀ s ∈ a.refs, e'.root s = e.root s) -> a.refOk e e'
 | .gd _ a, h => refOk_refs a h
 | .eqv _ _, _ => trivial
 | .cl _ _, _ => trivial
 | .agl s _ _, h => h s (by simp [AV.refs])
 | .al s _, h => h s (by simp [AV.refs])
 | .pt s _ _ _, h => h s (by simp [AV.refs])
 | .sub s _ _ _, h => h s (by simp [AV.refs])
 | .bsl s _ _, h => h s (by simp [AV.refs])
 | .no, _ => trivial
 | .undef, _ => trivial
 | .sv _, _ => trivial
 | .tup _, _ => trivial
theorem view_congr {e e' : Env} {ts : List Nat} (h1 : ∀ t ∈ ts, e.get t = e'.get t) (h2 : ∀ t ∈ ts, ∀ s ∈ (e.get t).refs, e.get s = e'.get s) : view e ts = view e' ts := by
 unfold view
 have hm : ts.map (fun t => (t, e.get t)) = ts.map (fun t => (t, e'.get t)) := List.map_congr_left fun t ht => by rw [h1 t ht]
 have hf : (ts.flatMap fun t => (e.get t).refs.map fun s => (s, (e.get s).own)) = ts.flatMap fun t => (e'.get t).refs.map fun s => (s, (e'.get s).own) := by
  simp only [List.flatMap]
  congr 1
  refine List.map_congr_left fun t ht => ?_
  rw [<- h1 t ht]
  exact List.map_congr_left fun s hs => by rw [h2 t ht s hs]
 rw [hm, hf]
section
variable {P : Program} {N B : Nat} {w0 : World} {S0 : Nat -> Prop} {env : Env} {a : Act} {w : World} {rows : Nat -> List Nat} {next : Act -> World -> Prop} {Q : Exit -> Act -> World -> Prop}
theorem AVR.lift {S : Nat -> Prop} {f : Nat -> Value} {e' e : Env} (hu : e'.under e) : ∀ (av : AV) {v : Value} {r : List Nat}, AVR w S e' f av v r -> AVR w S e f av v r
 | .no, _, _, h => h
 | .undef, _, _, h => h
 | .sv x, _, _, h => h
 | .tup l, _, _, h => h
 | .al s p, _, _, ⟨h0, x, y, h1, h2⟩ => ⟨h0, x, y, under_root hu h1, h2⟩
 | .pt s p i j, _, _, ⟨h0, x, u, y, el, ad, h1, h2⟩ => ⟨h0, x, u, y, el, ad, under_root hu h1, h2⟩
 | .sub s p lo hi, _, _, ⟨h0, x, y, A, n, c, els, h1, h2⟩ => ⟨h0, x, y, A, n, c, els, under_root hu h1, h2⟩
 | .bsl s p m, _, _, ⟨h0, x, u, y, el, ad, h1, h2⟩ => ⟨h0, x, u, y, el, ad, under_root hu h1, h2⟩
 | .gd c a, _, _, ⟨h0, h1, h2⟩ => ⟨h0, fun hc => AVR.lift hu a (h1 hc), h2⟩
 | .eqv _ _, _, _, h => h
 | .cl _ _, _, _, h => h
 | .agl s p i, _, _, ⟨h0, x, u, y, el, vs, h1, h2⟩ => ⟨h0, x, u, y, el, vs, under_root hu h1, h2⟩
theorem SimR.view (h : SimR N B w0 S0 env a w rows) (ts : List Nat) : SimR N B w0 S0 (Av.view env ts) a w rows := by
 refine ⟨h.defers, h.size, h.below, h.base, h.old, h.own, h.nodup, h.apart, fun t => ?_⟩
 rw [view_get]
 split
 ·rename_i ht
  exact AVR.refKeep (fun _ h => h) _ (h.rel t) (refOk_refs _ fun s hs => view_root env ts ht hs)
 ·split
  ·have hr := h.rel t
   cases hg : env.get t <;> simp only [AV.own] <;> first | trivial | skip
   rw [hg] at hr
   exact hr
  ·trivial
def SV.frz : SV -> SV
 | .one x => .one x.frz
 | .ag l => .ag (frzL l)
def RV.frz : RV -> RV
 | .one x => .one x.frz
 | .tup l => .tup (l.map SV.frz)
theorem CzS.freeze {S S' : Nat -> Prop} (hS : ∀ b, S b -> S' b) {v : Value} {x : SV} {rs : List Nat} (h : CzS w S v x rs) (hr : ∀ b ∈ rs, S' b) : CzS w S' v x.frz [] := by
 cases h with
 | one v x r h => exact .one _ _ _ (h.freeze hS hr)
 | ag vs l r h => exact .ag _ _ _ (h.freeze hS hr)
theorem CzSL.freeze {S S' : Nat -> Prop} (hS : ∀ b, S b -> S' b) {vs : List Value} {l : List SV} {rs : List Nat} (h : CzSL w S vs l rs) : (∀ b ∈ rs, S' b) -> CzSL w S' vs (l.map SV.frz) [] := by
 induction h with
 | nil => intro _; exact .nil
 | cons v x r vs xs rs h _ ih =>
   intro hr
   have := CzSL.cons _ _ _ _ _ _ (h.freeze hS (fun b hb => hr b (by simp [hb]))) (ih (fun b hb => hr b (by simp [hb])))
   simpa using this
theorem Sim.guard {d : Nat} {r : RV} (h : Sim N B w0 S0 (env.put d r.av) a w) : Sim N B w0 S0 (env.put d (.gd true r.frz.av)) a w := by
 obtain ⟨rows, h⟩ := h
 have hS : ∀ b, SS B S0 w rows b -> SS B S0 w (fun t => if d = t then [] else rows t) b := by
  intro b hb
  rcases hb with hb | ⟨h1, h2, h3⟩
  ·exact .inl hb
  ·refine .inr ⟨h1, h2, fun t ht => ?_⟩
   dsimp only at ht
   split at ht
   ·cases ht
   ·exact h3 t ht
 have hd : ∀ b ∈ rows d, SS B S0 w (fun t => if d = t then [] else rows t) b := by
  intro b hb
  refine .inr ⟨(h.own d b hb).1, (h.own d b hb).2, fun t ht => ?_⟩
  dsimp only at ht
  split at ht
  ·cases ht
  ·rename_i e
   exact h.apart d t e b hb ht
 refine ⟨fun t => if d = t then [] else rows t, h.defers, h.size, h.below, h.base, h.old_next (fun t b hb => (mem_ite hb).elim (fun hb => by cases hb) (fun hb => .inl ⟨t, hb⟩)) (fun b hlt _ => rfl), ?_, ?_, ?_, fun t => ?_⟩
 ·intro t b hb
  split at hb
  ·cases hb
  ·exact h.own t b hb
 ·intro t
  split
  ·exact List.nodup_nil
  ·exact h.nodup t
 ·intro t t' hne b hb hb'
  split at hb
  ·cases hb
  ·split at hb'
   ·cases hb'
   ·exact h.apart t t' hne b hb hb'
 ·have hr := h.rel t
  rw [Env.get_put] at hr ⊢
  split
  ·rename_i e
   subst e
   rw [if_pos rfl] at hr
   cases r with
   | one x => exact ⟨rfl, fun _ => CzS.freeze hS hr hd, fun hf => by cases hf⟩
   | tup l =>
     obtain ⟨vs, h1, h2⟩ := hr
     exact ⟨rfl, fun _ => ⟨vs, h1, h2.freeze hS hd⟩, fun hf => by cases hf⟩
  ·rename_i e
   rw [if_neg e] at hr
   have hne : ∀ (b : AV) (s : Nat), s ∈ (b.kill d 0).refs -> d ≠ s := by
    intro b
    induction b with
    | gd c b ih => exact ih
    | al s' p => intro s; simp only [AV.kill]; split <;> simp [AV.refs]; rintro rfl; simp_all; omega
    | pt s' p i j => intro s; simp only [AV.kill]; split <;> simp [AV.refs]; rintro rfl; simp_all; omega
    | sub s' p i j => intro s; simp only [AV.kill]; split <;> simp [AV.refs]; rintro rfl; simp_all; omega
    | bsl s' p i => intro s; simp only [AV.kill]; split <;> simp [AV.refs]; rintro rfl; simp_all; omega
    | eqv s' v => intro s; simp only [AV.kill]; split <;> simp [AV.refs]; rintro rfl; simp_all; omega
    | cl g caps =>
      intro s
      simp only [AV.kill]
      split
      ·simp [AV.refs]
      ·rename_i hk
       simp only [AV.refs]
       intro hs e
       subst e
       exact hk ⟨by simpa using hs, trivial⟩
    | agl s' p i =>
      intro s
      simp only [AV.kill]
      split
      ·simp [AV.refs]
      ·rename_i hk
       simp only [AV.refs, List.mem_singleton]
       rintro rfl e
       exact hk e.symm
    | _ => simp [AV.kill, AV.refs]
   refine AVR.refKeep hS _ hr (refOk_refs _ fun s hs => ?_)
   have := hne _ s hs
   rw [Env.root_put_ne _ _ this, Env.root_put_ne _ _ this]
end
end Go.Av
namespace Go.Av
open Go Go.RowKit
def frz3 : DV -> DV
 | .ow 3 els => .sl (frzLL els)
 | x => x
theorem AVR.congr {w : World} {S : Nat -> Prop} {env env' : Env} {f : Nat -> Value} (hg : ∀ s, env'.root s = env.root s) : ∀ (av : AV) {v : Value} {r : List Nat}, AVR w S env f av v r -> AVR w S env' f av v r
 | .no, _, _, h => h
 | .undef, _, _, h => h
 | .sv _, _, _, h => h
 | .tup _, _, _, h => h
 | .al s p, _, _, h => by simpa only [AVR, hg] using h
 | .pt s p i j, _, _, h => by simpa only [AVR, hg] using h
 | .sub s p lo hi, _, _, h => by simpa only [AVR, hg] using h
 | .bsl s p n, _, _, h => by simpa only [AVR, hg] using h
 | .gd c a, _, _, ⟨h1, h2, h3⟩ => ⟨h1, fun hc => AVR.congr hg a (h2 hc), h3⟩
 | .eqv s x, _, _, h => h
 | .cl g caps, _, _, h => h
 | .agl s p i, _, _, h => by simpa only [AVR, hg] using h
theorem Sim.frzPut {N B : Nat} {w0 : World} {S0 : Nat -> Prop} {env : Env} {a : Act} {w : World} {d : Nat} {x : DV} (h : Sim N B w0 S0 (env.put d (.sv (.one x))) a w) : Sim N B w0 S0 (env.put d (.sv (.one x.frz))) a w := by
 obtain ⟨rows, h⟩ := h
 obtain ⟨rows', h', _, _⟩ := h.frz d
 have hroot : (env.put d (.sv (.one x))).root d = some x := by
  simp [Env.root, Env.get_put, AV.kill, AV.asOne]
 unfold Env.frz at h'
 rw [hroot] at h'
 have hget : ∀ t, (env.put d (.sv (.one x.frz))).get t = ((env.put d (.sv (.one x))).setRoot d x.frz 0).get t := by
  intro t
  rw [Env.get_put, Env.get_setRoot, Env.get_put]
  by_cases e : d = t
  ·simp only [e, if_true]
   rfl
  ·simp only [e, if_false]
   rw [AV.kill_kill]
 refine ⟨rows', h'.defers, h'.size, h'.below, h'.base, h'.old, h'.own, h'.nodup, h'.apart, fun t => ?_⟩
 rw [hget t]
 exact AVR.congr (fun s => by unfold Env.root; rw [hget s]) _ (h'.rel t)
theorem Sim.frz3 {N B : Nat} {w0 : World} {S0 : Nat -> Prop} {env : Env} {a : Act} {w : World} {d : Nat} {x : DV} (h : Sim N B w0 S0 (env.put d (.sv (.one x))) a w) : Sim N B w0 S0 (env.put d (.sv (.one (Av.frz3 x)))) a w := by
 unfold Av.frz3
 split
 ·exact h.frzPut
 ·exact h
def RV.frzT : RV -> RV
 | .one x => .one x
 | .tup l => .tup (l.map SV.frz)
theorem Sim.frzT {N B : Nat} {w0 : World} {S0 : Nat -> Prop} {env : Env} {a : Act} {w : World} {d : Nat} {r : RV} (h : Sim N B w0 S0 (env.put d r.av) a w) : Sim N B w0 S0 (env.put d r.frzT.av) a w := by
 cases r with
 | one x => exact h
 | tup l =>
   obtain ⟨rows, h'⟩ := Sim.guard h
   refine ⟨rows, h'.defers, h'.size, h'.below, h'.base, h'.old, h'.own, h'.nodup, h'.apart, fun t => ?_⟩
   have hr := h'.rel t
   have hroot : ∀ s, (env.put d (RV.tup l).frzT.av).root s = (env.put d (.gd true (RV.tup l).frz.av)).root s := by
    intro s
    unfold Env.root
    rw [Env.get_put, Env.get_put]
    split <;> rfl
   rw [Env.get_put] at hr ⊢
   by_cases e : d = t
   ·rw [if_pos e] at hr ⊢
    have hr2 : AVR w (SS B S0 w rows) (env.put d (.gd true (RV.tup l).frz.av)) (Act.f a) (.gd true ((RV.tup l).frz.av.kill d 0)) (Act.f a t) (rows t) := hr
    obtain ⟨h1, h2, _⟩ := hr2
    have h3 := h2 rfl
    rw [h1]
    exact AVR.congr hroot _ h3
   ·rw [if_neg e] at hr ⊢
    exact AVR.congr hroot _ hr
def amk (P : Program) (v : Env) (o : Op) (R : AV -> Option (Nat × List (Nat × Nat)) -> Prop) : Prop :=
 match apureA P v o with
 | some (ob, av) => ob /\ R av none
 | none => match o with
   | .box _ _ => match abox v o P with
     | some l => R (.sv (.one (.bx l))) none
     | none => False
   | .alloc _ => match abox v o P with
     | some l => R (.sv (.one (.bx l))) none
     | none => False
   | .buildSlice t len parts => match abuildSlice P v t len parts with
     | some x => R (.sv (.one x)) none
     | none => False
   | .makeSlice t len cap => match amake P v t len cap with
     | some (ob, x) => ob /\ R (.sv (.one x)) none
     | none => False
   | .call c => match aappend P v (.call c) with
     | some (ob, _, x) => ob /\ R (.sv (.one x)) (appendOn v (.call c))
     | none => match acall v (.call c) with
       | some (f, ys, own) => ∃ r, Impl P f ys r /\ (own = true -> r.Closed) /\ R r.frzT.av none
       | none => match acallF v (.call c) with
         | some (f, ys, own) => ∃ r, Impl P f ys r /\ (own = true -> r.Closed) /\ R r.frzT.av none
         | none => False
   | _ => False
def gmk (P : Program) (v : Env) (o : SOp) (R : AV -> Option (Nat × List (Nat × Nat)) -> Prop) : Prop :=
 match o.g with
 | none => amk P v o.op R
 | some (s, want) => match (v.get s).wanted want with
   | some c => match apureA P (strip v (strTmps o.op)).2 o.op with
     | some (ob, av) => (c = true -> (strip v (strTmps o.op)).1 /\ ob) /\ R (.gd c av) none
     | none => match o.op with
       | .buildSlice t len parts => match abuildSlice P (strip v (strTmps o.op)).2 t len parts with
         | some x => (c = true -> (strip v (strTmps o.op)).1) /\ R (.gd c (.sv (.one x.frz))) none
         | none => c = false /\ R .undef none
       | .call cl => match acall (strip v (strTmps o.op)).2 (.call cl) with
         | some (f, ys, own) => ∃ r, (c = true -> (strip v (strTmps o.op)).1 /\ Impl P f ys r /\ (own = true -> r.Closed)) /\ R (.gd c r.frz.av) none
         | none => match acallF (strip v (strTmps o.op)).2 (.call cl) with
           | some (f, ys, own) => ∃ r, (c = true -> (strip v (strTmps o.op)).1 /\ Impl P f ys r /\ (own = true -> r.Closed)) /\ R (.gd c r.frz.av) none
           | none => c = false /\ R .undef none
       | _ => c = false /\ R .undef none
   | none => False
theorem amk_mono {P : Program} {v : Env} {o : Op} {R R' : AV -> Option (Nat × List (Nat × Nat)) -> Prop} (h : amk P v o R) : ∃ av c, R av c /\ amk P v o (fun av' c' => av' = av /\ c' = c) := by
 unfold amk at *
 split at h
 ·exact ⟨_, _, h.2, h.1, rfl, rfl⟩
 ·split at h
  ·split at h
   ·exact ⟨_, _, h, rfl, rfl⟩
   ·exact h.elim
  ·split at h
   ·exact ⟨_, _, h, rfl, rfl⟩
   ·exact h.elim
  ·split at h
   ·exact ⟨_, _, h, rfl, rfl⟩
   ·exact h.elim
  ·split at h
   ·exact ⟨_, _, h.2, h.1, rfl, rfl⟩
   ·exact h.elim
  ·split at h
   ·exact ⟨_, _, h.2, h.1, rfl, rfl⟩
   ·split at h
    ·obtain ⟨r, h1, h2, h3⟩ := h
     exact ⟨_, _, h3, r, h1, h2, rfl, rfl⟩
    ·split at h
     ·obtain ⟨r, h1, h2, h3⟩ := h
      exact ⟨_, _, h3, r, h1, h2, rfl, rfl⟩
     ·exact h.elim
  ·exact h.elim
theorem gmk_mono {P : Program} {v : Env} {o : SOp} {R : AV -> Option (Nat × List (Nat × Nat)) -> Prop} (h : gmk P v o R) : ∃ av c, R av c /\ gmk P v o (fun av' c' => av' = av /\ c' = c) := by
 unfold gmk at *
 split at h
 ·exact amk_mono (R' := R) h
 ·split at h
  ·split at h
   ·exact ⟨_, _, h.2, h.1, rfl, rfl⟩
   ·split at h
    ·split at h
     ·exact ⟨_, _, h.2, h.1, rfl, rfl⟩
     ·exact ⟨_, _, h.2, h.1, rfl, rfl⟩
    ·split at h
     ·obtain ⟨r, h1, h2⟩ := h
      exact ⟨_, _, h2, r, h1, rfl, rfl⟩
     ·split at h
      ·obtain ⟨r, h1, h2⟩ := h
       exact ⟨_, _, h2, r, h1, rfl, rfl⟩
      ·exact ⟨_, _, h.2, h.1, rfl, rfl⟩
    ·exact ⟨_, _, h.2, h.1, rfl, rfl⟩
  ·exact h.elim
section
variable {P : Program} {N B : Nat} {w0 : World} {S0 : Nat -> Prop} {env : Env} {a : Act} {w : World} {rows : Nat -> List Nat} {next : Act -> World -> Prop} {Q : Exit -> Act -> World -> Prop}
theorem amk_ok (h : SimR N B w0 S0 env a w rows) {v : Env} (hu : v.under env) (hv : SimR N B w0 S0 v a w rows) {o : Oper} {av : AV} {c : Option (Nat × List (Nat × Nat))} (hk : amk P v o.op (fun av' c' => av' = av /\ c' = c))
  {d : Nat} (hd : d < N) (hdst : o.dst = some d) (hn : ∀ a' w', Sim N B w0 S0 ((env.loses c).put d av) a' w' -> next a' w') : o.wp P a w next Q := by
 unfold amk at hk
 split at hk
 ·rename_i ob av' hp
  obtain ⟨hob, rfl, rfl⟩ := hk
  obtain ⟨u, hy, hr⟩ := apureA_ok hv hp hob
  exact wp_pure h ⟨u, hy, AVR.lift hu _ hr⟩ hd hdst hn
 ·split at hk
  ·rename_i T x ho
   split at hk
   ·rename_i l hl
    obtain ⟨rfl, rfl⟩ := hk
    exact abox_ok h (under_box hu hl) hd hdst hn
   ·exact hk.elim
  ·rename_i T ho
   split at hk
   ·rename_i l hl
    obtain ⟨rfl, rfl⟩ := hk
    exact abox_ok h (under_box hu hl) hd hdst hn
   ·exact hk.elim
  ·rename_i t len parts ho
   split at hk
   ·rename_i x hx
    obtain ⟨rfl, rfl⟩ := hk
    exact abuildSlice_ok h ho (under_buildSlice hu hx) hd hdst hn
   ·exact hk.elim
  ·rename_i t len cap ho
   split at hk
   ·rename_i ob x hx
    obtain ⟨hob, rfl, rfl⟩ := hk
    exact amake_ok h ho (under_make hu hx) hob hd hdst hn
   ·exact hk.elim
  ·rename_i cl ho
   split at hk
   ·rename_i ob e2 x hx
    obtain ⟨hob, rfl, rfl⟩ := hk
    rw [<- ho] at hx hn
    obtain ⟨h1, h2, h3⟩ := under_append hu hx
    exact aappend_ok h h3 hob hd hdst (fun a' w' hs => hn a' w' hs)
   ·split at hk
    ·rename_i f ys own hx
     rw [<- ho] at hx
     obtain ⟨r, hf, hc, rfl, rfl⟩ := hk
     exact call_ok h (under_call hu hx) hf hc hd hdst (fun a' w' hs => hn a' w' hs.frzT)
    ·split at hk
     ·rename_i f ys own hx
      rw [<- ho] at hx
      obtain ⟨r, hf, hc, rfl, rfl⟩ := hk
      exact callF_ok h (under_callF hu hx) hf hc hd hdst (fun a' w' hs => hn a' w' hs.frzT)
     ·exact hk.elim
  ·exact hk.elim
theorem gmk_ok {env : Env} {rows : Nat -> List Nat} (h : SimR N B w0 S0 env a w rows) {ops : Array Oper} {o : Oper} {g : Option (Nat × Bool)} (hg : slimGuard ops o.guard = some g) (hgN : guardN N g = true) {ts : List Nat} {av : AV} {c : Option (Nat × List (Nat × Nat))}
  (hk : gmk P (view env ts) { dst := o.dst, op := o.op, g := g } (fun av' c' => av' = av /\ c' = c)) {d : Nat} (hd : d < N) (hdst : o.dst = some d) (hn : ∀ a' w', Sim N B w0 S0 ((env.loses c).put d av) a' w' -> next a' w') :
  if Region.wanted o (yielded ops a.tmps) then o.wp P a w next Q else next (a.put o.dst Go.undef) w := by
 have hv := h.view ts
 have hu := view_under env ts
 unfold slimGuard at hg
 split at hg
 ·rename_i hnone
  injection hg with hg
  subst hg
  have hw : Region.wanted o (yielded ops a.tmps) = true := by simp [Region.wanted, hnone]
  rw [if_pos hw]
  exact amk_ok h hu hv hk hd hdst hn
 ·rename_i j want hsome
  split at hg
  ·rename_i s hj
   injection hg with hg
   subst hg
   have hsN : s < N := by simpa [guardN] using hgN
   simp only [gmk] at hk
   split at hk
   ·rename_i cnd hcnd
    rw [wanted_ok hv hsome hj hsN hcnd]
    have hstrip : (strip (view env ts) (strTmps o.op)).1 -> cnd = true -> ∀ t, (strip (view env ts) (strTmps o.op)).2.get t = (view env ts).get t := by
     intro hs _ t
     rcases strip_get (strTmps o.op) hs t with h1 | ⟨c', b, h1, h2, h3⟩
     ·exact h1
     ·rw [h1, h3, h2]
    split at hk
    ·rename_i ob av' hp
     obtain ⟨hk1, rfl, rfl⟩ := hk
     cases cnd with
     | true =>
       rw [if_pos rfl]
       obtain ⟨hst, hob⟩ := hk1 rfl
       have hs' := (hv.strip hst).1
       obtain ⟨u, hy, hr⟩ := apureA_ok hs' hp hob
       refine wp_pure (av := .gd true av') h ⟨u, hy, rfl, fun _ => ?_, fun hf => by cases hf⟩ hd hdst hn
       refine AVR.lift (fun t => ?_) _ hr
       rw [hstrip hst rfl t]
       exact hu t
     | false =>
       rw [if_neg (by simp), hdst]
       exact hn _ _ ⟨_, h.put hd (Below.refl _ _) (r := []) (by simp) (by simp) (av := .gd false av') ⟨rfl, fun hf => (by cases hf), fun _ => rfl⟩⟩
    ·split at hk
     ·rename_i t len parts ho
      split at hk
      ·rename_i x hx
       obtain ⟨hk1, rfl, rfl⟩ := hk
       cases cnd with
       | true =>
         rw [if_pos rfl]
         have hst := hk1 rfl
         refine abuildSlice_ok h ho (under_buildSlice (fun t => ?_) hx) hd hdst (fun a' w' hs => hn a' w' (Sim.guard (r := .one (.one x)) hs))
         rw [hstrip hst rfl t]
         exact hu t
       | false =>
         rw [if_neg (by simp), hdst]
         exact hn _ _ ⟨_, h.put hd (Below.refl _ _) (r := []) (by simp) (by simp) (av := .gd false _) ⟨rfl, fun hf => (by cases hf), fun _ => rfl⟩⟩
      ·obtain ⟨rfl, rfl, rfl⟩ := hk
       rw [if_neg (by simp), hdst]
       exact hn _ _ (put_undef h hd)
     ·rename_i cl ho
      split at hk
      ·rename_i f ys own hx
       obtain ⟨r, hk1, rfl, rfl⟩ := hk
       cases cnd with
       | true =>
         rw [if_pos rfl]
         obtain ⟨hst, hf, hc⟩ := hk1 rfl
         have ho' : o.op = .call cl := ho
         rw [<- ho'] at hx
         refine call_ok h (under_call (fun t => ?_) hx) hf hc hd hdst (fun a' w' hs => hn a' w' (Sim.guard hs))
         rw [hstrip hst rfl t]
         exact hu t
       | false =>
         rw [if_neg (by simp), hdst]
         exact hn _ _ ⟨_, h.put hd (Below.refl _ _) (r := []) (by simp) (by simp) (av := .gd false _) ⟨rfl, fun hf => (by cases hf), fun _ => rfl⟩⟩
      ·split at hk
       ·rename_i f ys own hx
        obtain ⟨r, hk1, rfl, rfl⟩ := hk
        cases cnd with
        | true =>
          rw [if_pos rfl]
          obtain ⟨hst, hf, hc⟩ := hk1 rfl
          have ho' : o.op = .call cl := ho
          rw [<- ho'] at hx
          refine callF_ok h (under_callF (fun t => ?_) hx) hf hc hd hdst (fun a' w' hs => hn a' w' (Sim.guard hs))
          rw [hstrip hst rfl t]
          exact hu t
        | false =>
          rw [if_neg (by simp), hdst]
          exact hn _ _ ⟨_, h.put hd (Below.refl _ _) (r := []) (by simp) (by simp) (av := .gd false _) ⟨rfl, fun hf => (by cases hf), fun _ => rfl⟩⟩
       ·obtain ⟨rfl, rfl, rfl⟩ := hk
        rw [if_neg (by simp), hdst]
        exact hn _ _ (put_undef h hd)
     ·obtain ⟨rfl, rfl, rfl⟩ := hk
      rw [if_neg (by simp), hdst]
      exact hn _ _ (put_undef h hd)
   ·exact hk.elim
  ·cases hg
end
end Go.Av
namespace Go.Av
open Go Go.RowKit
theorem under_copyTo {e' e : Env} (h : e'.under e) {v : AV} {r : Nat × Nat × List (List DV) × Nat × Nat} (hx : copyTo e' v = some r) : copyTo e v = some r := by
 unfold copyTo at hx
 split at hx
 ·split at hx
  ·rename_i hr
   simp only [copyTo, under_root h hr]
   exact hx
  ·cases hx
 ·split at hx
  ·rename_i hr
   simp only [copyTo, under_root h hr]
   exact hx
  ·cases hx
 ·cases hx
theorem copyTo_no {e : Env} {r : Nat × Nat × List (List DV) × Nat × Nat} (hx : copyTo e .no = some r) : False := by
 simp [copyTo] at hx
theorem sliceOf_no2 {e : Env} {r : List (List DV)} (hx : sliceOf e .no = some r) : False := by
 simp [sliceOf] at hx
theorem under_copy {e' e : Env} (h : e'.under e) {P : Program} {o : Op} {r : Prop × Nat × DV × DV} (hx : acopy P e' o = some r) : acopy P e o = some r := by
 unfold acopy at hx
 split at hx
 ·rename_i c
  split at hx
  ·rename_i X Y t t' hcal hargs htys
   split at hx
   ·rename_i el hel
    split at hx
    ·rename_i z news s z2 els lo hi hs hsrc hto
     have hY : opd e Y = opd e' Y := under_opd_eq h rfl (fun hn => sliceOf_no2 (hn ▸ hsrc))
     have hX : opd e X = opd e' X := under_opd_eq h rfl (fun hn => copyTo_no (hn ▸ hto))
     have g1 := under_sliceOf h hsrc
     have g2 := under_copyTo h hto
     rw [<- hY] at g1
     rw [<- hX] at g2
     simp only [acopy, hcal, hargs, htys, hel, hs, g1, g2]
     exact hx
    ·cases hx
   ·cases hx
  ·cases hx
 ·cases hx
end Go.Av
namespace Go.Av
open Go Go.RowKit
structure Eff where
 w : Env
 k : List (Nat × Nat)
def killsOf (k : List (Nat × Nat)) (a : AV) : AV :=
 match k with
 | [] => a
 | (s, n) :: k => killsOf k (a.kill s n)
def Env.kills (k : List (Nat × Nat)) (e : Env) : Env :=
 match k with
 | [] => e
 | (s, n) :: k => Env.kills k (Env.kill s n e)
theorem Env.get_kills : ∀ (k : List (Nat × Nat)) (e : Env) (t : Nat), (Env.kills k e).get t = killsOf k (e.get t)
 | [], _, _ => rfl
 | (s, n) :: k, e, t => by
   simp only [Env.kills, killsOf]
   rw [Env.get_kills k, Env.get_kill]
def Eff.on (f : Eff) (e : Env) : Env := f.w ++ Env.kills f.k e
def hasKey (t : Nat) : Env -> Bool
 | [] => false
 | (s, _) :: e => s == t || hasKey t e
theorem get_append (t : Nat) : ∀ (e r : Env), (e ++ r).get t = if hasKey t e then e.get t else r.get t
 | [], r => by simp [hasKey]
 | (s, a) :: e, r => by
   simp only [List.cons_append, Env.get, hasKey, Bool.or_eq_true, beq_iff_eq]
   by_cases h : s = t
   ·simp [h]
   ·rw [if_neg h, get_append t e r]
    simp [h]
theorem Eff.get_on (f : Eff) (e : Env) (t : Nat) : (f.on e).get t = if hasKey t f.w then Env.get f.w t else killsOf f.k (e.get t) := by
 unfold Eff.on
 rw [get_append, Env.get_kills]
def astoreE (P : Program) (env : Env) (t : TypeId) (x y : Operand) : Option (Prop × Nat × DV) :=
 match opd env x with
 | .pt s p i j => match opd env y with
   | .sv d => match sizeT P t, env.root s, env.at s p with
     | some n, some x0, some y0 => match y0.elAt i with
       | some el => some (d.cells.all DV.flat = true /\ d.cells.length = n /\ j + n <= el.length, s, setP x0 p (y0.put i j d.cells))
       | none => none
     | _, _, _ => none
   | _ => none
 | _ => none
def astoreOwnE (P : Program) (env : Env) (t : TypeId) (x y : Operand) : Option (Prop × Nat × Nat × DV) :=
 match opd env x with
 | .pt s p i j => match opd env y with
   | .al k [] => match sizeT P t, env.root s, env.at s p, env.root k with
     | some n, some x0, some y0, some xk => match y0.elAt i with
       | some el => some (n = 1 /\ s ≠ k /\ j + 1 <= el.length, k, s, setP x0 p (y0.put i j [xk]))
       | none => none
     | _, _, _, _ => none
   | _ => none
 | _ => none
theorem under_store {e' e : Env} (h : e'.under e) {P : Program} {t : TypeId} {x y : Operand} {ob : Prop} {s : Nat} {x' : DV} (he : astoreE P e' t x y = some (ob, s, x')) : astore P e t x y = some (ob, e.setRoot s x' 1) := by
 unfold astoreE at he
 split at he
 ·rename_i s' p i j hx
  have hx' := under_opd_eq h hx (by simp)
  split at he
  ·rename_i d hy
   have hy' := under_opd_eq h hy (by simp)
   split at he
   ·rename_i n x0 y0 h1 h2 h3
    split at he
    ·rename_i el h4
     simp only [Option.some.injEq, Prod.mk.injEq] at he
     obtain ⟨rfl, rfl, rfl⟩ := he
     simp only [astore, hx', hy', h1, under_root h h2, under_at h h3, h4]
    ·cases he
   ·cases he
  ·cases he
 ·cases he
theorem under_storeOwn {e' e : Env} (h : e'.under e) {P : Program} {t : TypeId} {x y : Operand} {ob : Prop} {k s : Nat} {x' : DV} (he : astoreOwnE P e' t x y = some (ob, k, s, x')) : astoreOwn P e t x y = some (ob, (e.setRoot k .dead 0).setRoot s x' 1) := by
 unfold astoreOwnE at he
 split at he
 ·rename_i s' p i j hx
  have hx' := under_opd_eq h hx (by simp)
  split at he
  ·rename_i d hy
   have hy' := under_opd_eq h hy (by simp)
   split at he
   ·rename_i n x0 y0 xk h1 h2 h3 h5
    split at he
    ·rename_i el h4
     simp only [Option.some.injEq, Prod.mk.injEq] at he
     obtain ⟨rfl, rfl, rfl, rfl⟩ := he
     simp only [astoreOwn, hx', hy', h1, under_root h h2, under_at h h3, under_root h h5, h4]
    ·cases he
   ·cases he
  ·cases he
 ·cases he
def cutAppend (P : Program) (v : Env) (o : Op) : Option (Prop × Nat × Nat × DV) :=
 match o with
 | .call c => match c.callee, c.args.toList, c.argTypes.toList with
   | .builtin .append, [.tmp t, .tmp k], [ty, ty'] => match elT P ty, elT P ty' with
     | some e, some _ => match sizeT P e, bytesT P e, zeroT P e with
       | some z, some bz, some _ => match v.get t, v.get k with
         | .sub s [] lo hi, .sv (.one (.ow _ news)) => match v.root s with
           | some (.ow z' els) => if k = t \/ k = s then none else some ((∀ e ∈ els, e.length = z') /\ z' = z /\ z_f z bz ((els.drop lo).take (hi - lo)) news, s, t, .ow z (((els.drop lo).take (hi - lo)) ++ news))
           | _ => none
         | _, _ => none
       | _, _, _ => none
     | _, _ => none
   | _, _, _ => none
 | _ => none
def bldB (P : Program) (v : Env) (t : TypeId) (parts : Array (Nat × Operand)) (d : Nat) : Option (List DV × List DV × Nat) :=
 match zeroT P t, partsOfD v parts.toList, placesT P t with
 | some zl, some dp, some pl => match afill (fun i => pl[i]?) zl dp with
   | some l => if ascP (fun i => pl[i]?) 0 (parts.toList.map (·.1)) then match movesOf v (fun i => pl[i]?) parts.toList with
     | [(j, k)] => match v.root k, l[j]? with
       | some x, some .dead => if k = d then none else some (l, l.set j x, k)
       | _, _ => none
     | _ => none else none
   | none => none
 | _, _, _ => none
def stoB (P : Program) (v : Env) (t : TypeId) (x y : Operand) : Option (Prop × Nat × Nat × List DV) :=
 match opd v x, y with
 | .pt s [] 0 0, .tmp k => match v.get k, v.root s, sizeT P t with
   | .sv (.ag l), some (.bx l0), some n => some (s ≠ k /\ l.length = n /\ l0.length = n, s, k, l)
   | _, _, _ => none
 | _, _ => none
theorem under_get {e' e : Env} (h : e'.under e) {t : Nat} {a : AV} (hx : e'.get t = a) (hn : a ≠ .no) : e.get t = a := by
 rcases h t with h1 | h1
 ·rw [h1] at hx; exact (hn hx.symm).elim
 ·rw [<- h1]; exact hx
theorem under_partsD {e' e : Env} (h : e'.under e) (pl : Nat -> Option (Nat × Nat)) : ∀ (l : List (Nat × Operand)) {r : List (Nat × List DV)}, partsOfD e' l = some r -> partsOfD e l = some r /\ movesOf e pl l = movesOf e' pl l
 | [], _, hx => ⟨hx, rfl⟩
 | (i, x) :: rest, r, hx => by
   simp only [partsOfD] at hx
   split at hx
   ·rename_i y l hy hl
    have h1 := under_opd_eq h hy (by simp)
    obtain ⟨h2, h3⟩ := under_partsD h pl rest hl
    simp only [partsOfD, movesOf, h1, h2, hy, h3]
    exact ⟨hx, trivial⟩
   ·rename_i s l hy hl
    have h1 := under_opd_eq h hy (by simp)
    obtain ⟨h2, h3⟩ := under_partsD h pl rest hl
    simp only [partsOfD, movesOf, h1, h2, hy, h3]
    exact ⟨hx, trivial⟩
   ·cases hx
theorem under_bld {e' e : Env} (h : e'.under e) {P : Program} {t : TypeId} {parts : Array (Nat × Operand)} {d : Nat} {l0 l : List DV} {k : Nat} (hx : bldB P e' t parts d = some (l0, l, k)) :
  k ≠ d /\ abuildO 1 P e t parts d = some (((e.put d (.sv (.ag l0))).put k .no).put d (.sv (.ag l))) := by
 unfold bldB at hx
 split at hx
 ·rename_i zl dp pl hz hdp hpl
  split at hx
  ·rename_i l1 hl
   split at hx
   ·rename_i hasc
    split at hx
    ·rename_i j k' hm
     split at hx
     ·rename_i x hr hdead
      split at hx
      ·cases hx
      ·rename_i hkd
       simp only [Option.some.injEq, Prod.mk.injEq] at hx
       obtain ⟨rfl, rfl, rfl⟩ := hx
       obtain ⟨h1, h2⟩ := under_partsD h (fun i => pl[i]?) _ hdp
       have hroot := under_root h hr
       have hroot2 : (e.put d (.sv (.ag l1))).root k' = some x := by rw [Env.root_put_ne _ _ (fun e => hkd e.symm)]; exact hroot
       refine ⟨hkd, ?_⟩
       unfold abuildO
       simp only [hz, h1, hpl, hl, h2, hm, hasc, List.length_singleton, Nat.le_refl, decide_true, Bool.true_and, List.all_cons, List.all_nil, Bool.and_true, bne_iff_ne, ne_eq, hkd, not_false_eq_true, if_true, gatherE, hroot2, hdead, if_false]
     ·cases hx
    ·cases hx
   ·cases hx
  ·cases hx
 ·cases hx
theorem under_stoB {e' e : Env} (h : e'.under e) {P : Program} {t : TypeId} {x y : Operand} {ob : Prop} {s k : Nat} {l : List DV} (hx : stoB P e' t x y = some (ob, s, k, l)) : astoreO P e t x y = some (ob, (e.put k .no).put s (.sv (.one (.bx l)))) := by
 unfold stoB at hx
 split at hx
 ·rename_i s' k' h1
  have h1' := under_opd_eq h h1 (by simp)
  split at hx
  ·rename_i l' l0 n h2 h3 h4
   simp only [Option.some.injEq, Prod.mk.injEq] at hx
   obtain ⟨rfl, rfl, rfl, rfl⟩ := hx
   simp only [astoreO, h1', under_get h h2 (by simp), under_root h h3, h4]
  ·cases hx
 ·cases hx
def bmk (P : Program) (v : Env) (o : Op) (dst : Option Nat) (R : Eff -> Prop) : Prop :=
 match dst with
 | none => match o with
   | .store t x y => match astoreE P v t x y with
     | some (ob, s, x') => ob /\ R ⟨[(s, .sv (.one x'))], [(s, 1)]⟩
     | none => match astoreOwnE P v t x y with
       | some (ob, k, s, x') => ob /\ R ⟨[(s, .sv (.one x')), (k, .sv (.one .dead))], [(k, 0), (s, 1)]⟩
       | none => match stoB P v t x y with
         | some (ob, s, k, l) => ob /\ R ⟨[(s, .sv (.one (.bx l))), (k, .no)], [(k, 0), (s, 0)]⟩
         | none => False
   | _ => False
 | some d => match apureA P v o with
   | some (ob, av) => ob /\ R ⟨[(d, av.kill d 0)], [(d, 0)]⟩
   | none => match o with
     | .assign (.tmp t) => match v.get t with
       | .sv (.one x) => R ⟨[(d, .sv (.one x)), (t, .sv (.one .dead))], [(t, 0), (d, 0)]⟩
       | _ => False
     | .build t parts => match bldB P v t parts d with
       | some (_, l, k) => R ⟨[(d, .sv (.ag l)), (k, .no)], [(d, 0), (k, 0), (d, 0)]⟩
       | none => False
     | .makeSlice t len cap => match amake P v t len cap with
       | some (ob, x) => ob /\ R ⟨[(d, .sv (.one x.frz))], [(d, 0)]⟩
       | none => False
     | .buildSlice t len parts => match abuildSlice P v t len parts with
       | some x => R ⟨[(d, .sv (.one x))], [(d, 0)]⟩
       | none => False
     | .call c => match aappend P v (.call c) with
       | some (ob, _, x) => match appendOn v (.call c) with
         | none => ob /\ R ⟨[(d, .sv (.one x))], [(d, 0)]⟩
         | some (s, []) => ob /\ R ⟨[(d, .sv (.one x)), (s, .sv (.one .dead))], [(s, 0), (d, 0)]⟩
         | some (s, i :: q) => match v.root s with
           | some y => ob /\ R ⟨[(d, .sv (.one x)), (s, .sv (.one (setP y (i :: q) .dead)))], [(s, 1), (d, 0)]⟩
           | none => False
       | none => match cutAppend P v (.call c) with
         | some (ob, s, t, x) => ob /\ R ⟨[(d, .sv (.one x)), (t, .sv (.one .dead)), (s, .sv (.one .dead))], [(s, 0), (t, 0), (d, 0)]⟩
         | none => match acopy P v (.call c) with
           | some (ob, s, y, n) => ob /\ R ⟨[(d, .sv (.one n)), (s, .sv (.one y))], [(s, 1), (d, 0)]⟩
           | none => False
     | _ => False
theorem bmk_mono {P : Program} {v : Env} {o : Op} {dst : Option Nat} {R : Eff -> Prop} (h : bmk P v o dst R) : ∃ f, R f /\ bmk P v o dst (fun f' => f' = f) := by
 unfold bmk at *
 split at h
 ·split at h
  ·split at h
   ·exact ⟨_, h.2, h.1, rfl⟩
   ·split at h
    ·exact ⟨_, h.2, h.1, rfl⟩
    ·split at h
     ·exact ⟨_, h.2, h.1, rfl⟩
     ·exact h.elim
  ·exact h.elim
 ·split at h
  ·exact ⟨_, h.2, h.1, rfl⟩
  ·split at h
   ·split at h
    ·exact ⟨_, h, rfl⟩
    ·exact h.elim
   ·split at h
    ·exact ⟨_, h, rfl⟩
    ·exact h.elim
   ·split at h
    ·exact ⟨_, h.2, h.1, rfl⟩
    ·exact h.elim
   ·split at h
    ·exact ⟨_, h, rfl⟩
    ·exact h.elim
   ·split at h
    ·split at h
     ·exact ⟨_, h.2, h.1, rfl⟩
     ·exact ⟨_, h.2, h.1, rfl⟩
     ·split at h
      ·exact ⟨_, h.2, h.1, rfl⟩
      ·exact h.elim
    ·split at h
     ·exact ⟨_, h.2, h.1, rfl⟩
     ·split at h
      ·exact ⟨_, h.2, h.1, rfl⟩
      ·exact h.elim
   ·exact h.elim
theorem append_root {P : Program} {env : Env} {o : Op} {r : Prop × Env × DV} {s : Nat} {p : List (Nat × Nat)} (h : aappend P env o = some r) (hon : appendOn env o = some (s, p)) : ∃ y, env.root s = some y := by
 unfold aappend at h
 split at h
 ·rename_i c
  split at h
  ·rename_i X Y t t' hcal hargs htys
   simp only [appendOn, hargs] at hon
   split at h
   ·split at h
    ·split at h
     ·split at h
      ·rename_i hX
       rw [hX] at hon
       cases hon
      ·rename_i s' p' hX
       rw [hX] at hon
       simp only [AV.given, Option.some.injEq, Prod.mk.injEq] at hon
       obtain ⟨rfl, rfl⟩ := hon
       split at h
       ·rename_i hat
        unfold Env.at at hat
        split at hat
        ·rename_i y hy
         exact ⟨y, hy⟩
        ·cases hat
       ·cases h
      ·cases h
     ·cases h
    ·cases h
   ·cases h
  ·cases h
 ·cases h
theorem amk_root {P : Program} {v : Env} {o : Op} {av : AV} {s : Nat} {p : List (Nat × Nat)} (h : amk P v o (fun av' c' => av' = av /\ c' = some (s, p))) : ∃ y, v.root s = some y := by
 unfold amk at h
 split at h
 ·cases h.2.2
 ·split at h
  ·split at h
   ·cases h.2
   ·exact h.elim
  ·split at h
   ·cases h.2
   ·exact h.elim
  ·split at h
   ·cases h.2
   ·exact h.elim
  ·split at h
   ·cases h.2.2
   ·exact h.elim
  ·split at h
   ·rename_i hx
    exact append_root hx h.2.2
   ·split at h
    ·obtain ⟨r, _, _, _, h⟩ := h
     cases h
    ·split at h
     ·obtain ⟨r, _, _, _, h⟩ := h
      cases h
     ·exact h.elim
  ·exact h.elim
theorem gmk_root {P : Program} {v : Env} {o : SOp} {av : AV} {s : Nat} {p : List (Nat × Nat)} (h : gmk P v o (fun av' c' => av' = av /\ c' = some (s, p))) : ∃ y, v.root s = some y := by
 unfold gmk at h
 split at h
 ·exact amk_root h
 ·split at h
  ·split at h
   ·cases h.2.2
   ·split at h
    ·split at h
     ·cases h.2.2
     ·cases h.2.2
    ·split at h
     ·obtain ⟨r, _, _, h⟩ := h
      cases h
     ·split at h
      ·obtain ⟨r, _, _, h⟩ := h
       cases h
      ·cases h.2.2
    ·cases h.2.2
  ·exact h.elim
theorem AV.kill_noop (s n : Nat) : ∀ (a : AV), s ∉ a.refs -> a.kill s n = a
 | .gd _ a, h => by simp only [AV.kill]; rw [AV.kill_noop s n a h]
 | .eqv s' _, h => by simp only [AV.refs, List.mem_singleton] at h; simp only [AV.kill]; rw [if_neg (fun hc => h hc.1.symm)]
 | .cl _ caps, h => by simp only [AV.refs] at h; simp only [AV.kill]; rw [if_neg (fun hc => h (by simpa using hc.1))]
 | .agl s' p _, h => by simp only [AV.refs, List.mem_singleton] at h; simp only [AV.kill]; rw [if_neg (fun hc => h hc.symm)]
 | .al s' p, h => by simp only [AV.refs, List.mem_singleton] at h; simp only [AV.kill]; rw [if_neg (fun hc => h hc.1.symm)]
 | .pt s' p _ _, h => by simp only [AV.refs, List.mem_singleton] at h; simp only [AV.kill]; rw [if_neg (fun hc => h hc.1.symm)]
 | .sub s' p _ _, h => by simp only [AV.refs, List.mem_singleton] at h; simp only [AV.kill]; rw [if_neg (fun hc => h hc.1.symm)]
 | .bsl s' p _, h => by simp only [AV.refs, List.mem_singleton] at h; simp only [AV.kill]; rw [if_neg (fun hc => h hc.1.symm)]
 | .no, _ => rfl
 | .undef, _ => rfl
 | .sv _, _ => rfl
 | .tup _, _ => rfl
theorem AV.kill_refs (s n : Nat) : ∀ (a : AV), ∀ x ∈ (a.kill s n).refs, x ∈ a.refs
 | .gd _ a, x, h => AV.kill_refs s n a x h
 | .eqv s' _, x, h => by simp only [AV.kill] at h; split at h; cases h; exact h
 | .cl _ caps, x, h => by simp only [AV.kill] at h; split at h; cases h; exact h
 | .agl s' p _, x, h => by simp only [AV.kill] at h; split at h; cases h; exact h
 | .al s' p, x, h => by simp only [AV.kill] at h; split at h; cases h; exact h
 | .pt s' p _ _, x, h => by simp only [AV.kill] at h; split at h; cases h; exact h
 | .sub s' p _ _, x, h => by simp only [AV.kill] at h; split at h; cases h; exact h
 | .bsl s' p _, x, h => by simp only [AV.kill] at h; split at h; cases h; exact h
 | .no, x, h => h
 | .undef, x, h => h
 | .sv _, x, h => h
 | .tup _, x, h => h
theorem killsOf_refs : ∀ (k : List (Nat × Nat)) (a : AV), ∀ x ∈ (killsOf k a).refs, x ∈ a.refs
 | [], _, x, h => h
 | (s, n) :: k, a, x, h => AV.kill_refs s n a x (killsOf_refs k _ x h)
section
variable {P : Program} {N B : Nat} {w0 : World} {S0 : Nat -> Prop} {env : Env} {a : Act} {w : World} {rows : Nat -> List Nat} {next : Act -> World -> Prop} {Q : Exit -> Act -> World -> Prop}
theorem cutAppend_ok (h : SimR N B w0 S0 env a w rows) {v : Env} (hu : v.under env) {o : Oper} {c : Call} (ho : o.op = .call c) {ob : Prop} {s t : Nat} {x : DV} (hx : cutAppend P v (.call c) = some (ob, s, t, x)) (hob : ob) {d : Nat} (hd : d < N) (hdst : o.dst = some d)
  (hn : ∀ a' w', Sim N B w0 S0 (Eff.on ⟨[(d, .sv (.one x)), (t, .sv (.one .dead)), (s, .sv (.one .dead))], [(s, 0), (t, 0), (d, 0)]⟩ env) a' w' -> next a' w') : o.wp P a w next Q := by
 unfold cutAppend at hx
 simp only at hx
 split at hx
 ·rename_i t' k ty ty' hcal hargs htys
  split at hx
  ·rename_i e e' he he'
   split at hx
   ·rename_i z bz zl hz hbz hzl
    split at hx
    ·rename_i s' lo hi z0 news ht hk
     split at hx
     ·rename_i z' els hroot
      split at hx
      ·cases hx
      ·rename_i hkt
       simp only [Option.some.injEq, Prod.mk.injEq] at hx
       obtain ⟨rfl, rfl, rfl, rfl⟩ := hx
       obtain ⟨hz1, rfl, hap⟩ := hob
       have hT : env.get t' = .sub s' [] lo hi := by
        rcases hu t' with h1 | h1
        ·rw [h1] at ht; cases ht
        ·rw [<- h1]; exact ht
       have hK : env.get k = .sv (.one (.ow z0 news)) := by
        rcases hu k with h1 | h1
        ·rw [h1] at hk; cases hk
        ·rw [<- h1]; exact hk
       have hR := under_root hu hroot
       have hcut : cutFirst env c = some ((∀ e ∈ els, e.length = z'), (env.setRoot s' .dead 0).put t' (.sv (.one (.ow z' ((els.drop lo).take (hi - lo)))))) := by
        simp [cutFirst, hargs, hT, hR]
       obtain ⟨rows1, hs1⟩ := h.cutFirst hcut hz1
       have hne1 : ¬ k = t' := fun e => hkt (.inl e)
       have hne2 : ¬ k = s' := fun e => hkt (.inr e)
       have hst : s' ≠ t' := by
        rintro rfl
        rw [Env.root, hT] at hR
        cases hR
       have hg1 : ((env.setRoot s' .dead 0).put t' (.sv (.one (.ow z' ((els.drop lo).take (hi - lo)))))).get k = .sv (.one (.ow z0 news)) := by
        rw [Env.get_put, if_neg (fun e => hne1 e.symm), Env.get_setRoot, if_neg (fun e => hne2 e.symm), hK]
        rfl
       have hg2 : ((env.setRoot s' .dead 0).put t' (.sv (.one (.ow z' ((els.drop lo).take (hi - lo)))))).get t' = .sv (.one (.ow z' ((els.drop lo).take (hi - lo)))) := by
        rw [Env.get_put, if_pos rfl]
        rfl
       generalize hE : (env.setRoot s' .dead 0).put t' (.sv (.one (.ow z' ((els.drop lo).take (hi - lo))))) = E at hs1 hg1 hg2
       have hap2 : aappend P E o.op = some (z' = z' /\ z_f z' bz ((els.drop lo).take (hi - lo)) news, E.give t' [], .ow z' (((els.drop lo).take (hi - lo)) ++ news)) := by
        rw [ho]
        simp [aappend, hcal, hargs, htys, he, he', hz, hbz, hzl, opd, hg1, hg2, AV.asOpd, sliceOf, Env.at, Env.root, AV.asOne, getP, DV.elsOf]
       refine aappend_ok hs1 hap2 ⟨rfl, hap⟩ hd hdst (fun a' w' hs => hn _ _ (Sim.congr (fun u => ?_) hs))
       have hRt : E.root t' = some (.ow z' ((els.drop lo).take (hi - lo))) := by rw [Env.root, hg2]; rfl
       have hgive : E.give t' [] = E.setRoot t' .dead 0 := by simp [Env.give, hRt, setP]
       rw [hgive, Env.get_put, Env.get_setRoot, <- hE, Env.get_put, Env.get_setRoot]
       simp only [Eff.get_on, hasKey, Env.get, killsOf, Bool.or_false, Bool.or_eq_true, beq_iff_eq]
       by_cases h1 : d = u
       ·simp [h1, AV.kill]
       ·by_cases h2 : t' = u
        ·simp [h1, h2, AV.kill]
        ·by_cases h3 : s' = u
         ·simp [h1, h2, h3, AV.kill]
         ·simp [h1, h2, h3, AV.kill, AV.kill_kill]
     ·cases hx
    ·cases hx
   ·cases hx
  ·cases hx
 ·cases hx
theorem bmk_ok (h : SimR N B w0 S0 env a w rows) {ts : List Nat} {o : Oper} {f : Eff} (hk : bmk P (view env ts) o.op o.dst (fun f' => f' = f)) (hd : o.dst.all (· < N) = true) (hn : ∀ a' w', Sim N B w0 S0 (f.on env) a' w' -> next a' w') : o.wp P a w next Q := by
 have hv := h.view ts
 have hu := view_under env ts
 unfold bmk at hk
 split at hk
 ·rename_i hdst
  split at hk
  ·rename_i t x y ho
   split at hk
   ·rename_i ob s x' hx
    obtain ⟨hob, rfl⟩ := hk
    exact astore_ok h ho (under_store hu hx) hob hdst (fun w' hs => hn _ _ hs)
   ·split at hk
    ·rename_i ob k s x' hx
     obtain ⟨hob, rfl⟩ := hk
     refine astoreOwn_ok h ho (under_storeOwn hu hx) hob hdst (fun w' hs => hn _ _ (Sim.congr (fun t => ?_) hs))
     simp only [Eff.get_on, hasKey, Env.get_setRoot, Env.get, killsOf, Bool.or_false, Bool.or_eq_true, beq_iff_eq]
     by_cases h1 : s = t
     ·simp [h1]
     ·by_cases h2 : k = t <;> simp [h1, h2, AV.kill]
    ·split at hk
     ·rename_i ob s k l hx
      obtain ⟨hob, rfl⟩ := hk
      refine astoreO_ok h ho (under_stoB hu hx) hob hdst (fun w' hs => hn _ _ (Sim.congr (fun t => ?_) hs))
      simp only [Eff.get_on, hasKey, Env.get_put, Env.get, killsOf, Bool.or_false, Bool.or_eq_true, beq_iff_eq]
      by_cases h1 : s = t
      ·simp [h1, AV.kill]
      ·by_cases h2 : k = t <;> simp [h1, h2, AV.kill]
     ·exact hk.elim
  ·exact hk.elim
 ·rename_i d hdst
  have hdN : d < N := by rw [hdst] at hd; simpa using hd
  split at hk
  ·rename_i ob av hp
   obtain ⟨hob, rfl⟩ := hk
   obtain ⟨u, hy, hr⟩ := apureA_ok hv hp hob
   exact wp_pure h ⟨u, hy, AVR.lift hu _ hr⟩ hdN hdst (fun a' w' hs => hn _ _ hs)
  ·split at hk
   ·rename_i t ho
    have hrun : (execOp a.eval o).run P w = .ok (.value (Act.f a t)) w := by simp [execOp, ho, Act.eval, Act.f]
    split at hk
    ·rename_i x hx
     subst hk
     have hx' : env.root t = some x := by
      have := under_root hu (s := t) (x := x) (by rw [Env.root, hx]; rfl)
      exact this
     refine wp_value hrun ?_
     rw [hdst]
     refine hn _ _ (Sim.congr (fun u => ?_) (h.takeOver hdN hx'))
     simp only [Eff.get_on, hasKey, Env.get_setRoot, Env.get_put, Env.get, killsOf, Bool.or_false, Bool.or_eq_true, beq_iff_eq]
     by_cases h1 : d = u
     ·simp [h1, AV.kill]
     ·by_cases h2 : t = u <;> simp [h1, h2, AV.kill]
    ·exact hk.elim
   ·rename_i t parts ho
    split at hk
    ·rename_i l0 l k hx
     subst hk
     obtain ⟨hkd, hb⟩ := under_bld hu hx
     refine abuildO_ok h ho hb hdN hdst (fun a' w' hs => hn _ _ (Sim.congr (fun u => ?_) hs))
     simp only [Eff.get_on, hasKey, Env.get_put, Env.get, killsOf, Bool.or_false, Bool.or_eq_true, beq_iff_eq]
     by_cases h1 : d = u
     ·simp [h1, AV.kill]
     ·by_cases h2 : k = u <;> simp [h1, h2, AV.kill]
    ·exact hk.elim
   ·rename_i t len cap ho
    split at hk
    ·rename_i ob x hx
     obtain ⟨hob, rfl⟩ := hk
     exact amake_ok h ho (under_make hu hx) hob hdN hdst (fun a' w' hs => hn _ _ (Sim.congr (fun u => by
      simp only [Eff.get_on, hasKey, Env.get_put, Env.get, killsOf, Bool.or_false, beq_iff_eq]
      by_cases h1 : d = u <;> simp [h1, AV.kill]) hs.frzPut))
    ·exact hk.elim
   ·rename_i t len parts ho
    split at hk
    ·rename_i x hx
     subst hk
     exact abuildSlice_ok h ho (under_buildSlice hu hx) hdN hdst (fun a' w' hs => hn _ _ (Sim.congr (fun u => by
      simp only [Eff.get_on, hasKey, Env.get_put, Env.get, killsOf, Bool.or_false, beq_iff_eq]
      by_cases h1 : d = u <;> simp [h1, AV.kill]) hs))
    ·exact hk.elim
   ·rename_i c ho
    split at hk
    ·rename_i ob e2 x hx
     rw [<- ho] at hx hk
     obtain ⟨h1, h2, h3⟩ := under_append hu hx
     split at hk
     ·rename_i hon
      obtain ⟨hob, rfl⟩ := hk
      rw [hon] at h3
      refine aappend_ok h h3 hob hdN hdst (fun a' w' hs => hn _ _ (Sim.congr (fun u => ?_) hs))
      simp only [Eff.get_on, hasKey, Env.get_put, Env.get, killsOf, Env.loses, Bool.or_false, beq_iff_eq]
      by_cases h1 : d = u <;> simp [h1, AV.kill]
     ·rename_i s hon
      obtain ⟨hob, rfl⟩ := hk
      rw [hon] at h3
      have hroot : ∃ y, env.root s = some y := append_root h3 (h2.trans hon)
      obtain ⟨y, hy⟩ := hroot
      refine aappend_ok h h3 hob hdN hdst (fun a' w' hs => hn _ _ (Sim.congr (fun u => ?_) hs))
      simp only [Eff.get_on, hasKey, Env.get_put, Env.get_setRoot, Env.get, killsOf, Env.loses, Env.give, hy, setP, List.isEmpty_nil, if_true, Bool.or_false, Bool.or_eq_true, beq_iff_eq]
      by_cases h1 : d = u
      ·simp [h1, AV.kill]
      ·by_cases h2 : s = u <;> simp [h1, h2, AV.kill]
     ·rename_i s i q hon
      split at hk
      ·rename_i y hvy
       obtain ⟨hob, rfl⟩ := hk
       rw [hon] at h3
       have hy := under_root hu hvy
       refine aappend_ok h h3 hob hdN hdst (fun a' w' hs => hn _ _ (Sim.congr (fun u => ?_) hs))
       simp only [Eff.get_on, hasKey, Env.get_put, Env.get_setRoot, Env.get, killsOf, Env.loses, Env.give, hy, List.isEmpty_cons, Bool.false_eq_true, if_false, Bool.or_false, Bool.or_eq_true, beq_iff_eq]
       by_cases h1 : d = u
       ·simp [h1, AV.kill]
       ·by_cases h2 : s = u <;> simp [h1, h2, AV.kill]
      ·exact hk.elim
    ·split at hk
     ·rename_i ob s t x hx
      obtain ⟨hob, rfl⟩ := hk
      exact cutAppend_ok h hu ho hx hob hdN hdst hn
     ·split at hk
      ·rename_i ob s y n hx
       obtain ⟨hob, rfl⟩ := hk
       rw [<- ho] at hx
       refine acopy_ok h (under_copy hu hx) hob hdN hdst (fun a' w' hs => hn _ _ (Sim.congr (fun u => ?_) hs))
       simp only [Eff.get_on, hasKey, Env.get_put, Env.get_setRoot, Env.get, killsOf, Bool.or_false, Bool.or_eq_true, beq_iff_eq]
       by_cases h1 : d = u
       ·simp [h1, AV.kill]
       ·by_cases h2 : s = u <;> simp [h1, h2, AV.kill]
      ·exact hk.elim
   ·exact hk.elim
end
end Go.Av
