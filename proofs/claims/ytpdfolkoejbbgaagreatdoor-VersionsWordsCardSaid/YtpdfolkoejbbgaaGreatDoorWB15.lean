/- Part of a proof. -/
import Derived.Test.YtpdfolkoejbbgaaGreatDoorWB13
import Derived.Test.YtpdfolkoejbbgaaGreatDoorWB14
import Derived.Test.YtpdfolkoejbbgaaGreatDoorWB03
set_option linter.unusedVariables false
set_option linter.unusedSimpArgs false
set_option maxHeartbeats 64000000
set_option maxRecDepth 8000
namespace Go.Av
open Go Go.RowKit Go.Proofs
def PathE (g : Glob) : Int -> List Inter -> Int -> Prop
 | s, [], t => s = t
 | s, a :: w, t => ∃ x ∈ g.edges, x.from_ = s /\ x.act = a /\ PathE g x.to w t
theorem PathE.snoc {g : Glob} : ∀ {w : List Inter} {s t : Int} {x : Edg}, PathE g s w t -> x ∈ g.edges -> x.from_ = t -> PathE g s (w ++ [x.act]) x.to
 | [], s, t, x, h, hx, hf => ⟨x, hx, hf.trans (Eq.symm h), rfl, rfl⟩
 | a :: w, s, t, x, ⟨y, hy, h1, h2, h3⟩, hx, hf => ⟨y, hy, h1, h2, PathE.snoc h3 hx hf⟩
theorem words_path {g : Glob} {n : Int} : ∀ (fu i : Nat) (ws R : List Wd), (∀ p ∈ ws, PathE g g.start p.1 p.2) -> wordsL g (sortedE g.edges) n fu i ws = some R -> ∀ p ∈ R, PathE g g.start p.1 p.2
 | 0, i, ws, R, h, he => by
   simp only [wordsL, Option.some.injEq] at he
   subst he
   exact h
 | fu + 1, i, ws, R, h, he => by
   simp only [wordsL] at he
   split at he
   ·simp only [Option.some.injEq] at he
    subst he
    exact h
   ·rename_i w hw
    have hwp := h w (List.mem_of_getElem? hw)
    split at he
    ·exact words_path fu (i + 1) ws R h he
    ·split at he
     ·cases he
     ·refine words_path fu (i + 1) _ R ?_ he
      intro p hp
      rcases List.mem_append.1 hp with hp | hp
      ·exact h p hp
      ·unfold nextW at hp
       obtain ⟨k, hk, rfl⟩ := List.mem_map.1 hp
       obtain ⟨x, hx, hk0, hxf⟩ := mem_sortedE.1 hk
       rw [hx]
       exact hwp.snoc (List.mem_of_getElem? hx) hxf
def againE : List Edg -> Int -> Inter -> Bool
 | [], _, _ => false
 | x :: es, s, a => if x.from_ = s /\ actEq x.act a = true then x.again else againE es s a
theorem next_one {es : List Edg} {x : Edg} (hx : x ∈ es) (hu : ∀ y ∈ es, y.from_ = x.from_ -> y.act = x.act -> y = x) : nextE es x.from_ x.act = some x.to /\ againE es x.from_ x.act = x.again := by
 induction es with
 | nil => cases hx
 | cons z es ih =>
   simp only [nextE, againE]
   split
   ·rename_i h
    have := hu z (by simp) h.1 (actEq_eq h.2)
    rw [this]
    exact ⟨rfl, rfl⟩
   ·rename_i h
    rcases List.mem_cons.1 hx with rfl | hx
    ·exact (h ⟨rfl, actEq_refl _⟩).elim
    ·exact ih hx fun y hy => hu y (List.mem_cons_of_mem _ hy)
theorem folE_none {es : List Edg} {s : Int} {a : Inter} {b : Bool} (h : ∀ y ∈ es, y.from_ = s -> y.act = a -> y.again ≠ b) : folE es s a b = -1 := by
 induction es with
 | nil => rfl
 | cons z es ih =>
   simp only [folE]
   split
   ·rename_i hc
    exact (h z (by simp) hc.1 (actEq_eq hc.2.1) hc.2.2).elim
   ·exact ih fun y hy => h y (List.mem_cons_of_mem _ hy)
theorem fol_next {es : List Edg} {s : Int} {a : Inter} {b : Bool} (hu : ∀ x ∈ es, ∀ y ∈ es, y.from_ = x.from_ -> y.act = x.act -> y = x) :
  folE es s a b = (match nextE es s a with
   | some t => if againE es s a = b then t else -1
   | none => -1) := by
 induction es with
 | nil => rfl
 | cons z es ih =>
   have ih := ih fun x hx y hy => hu x (List.mem_cons_of_mem _ hx) y (List.mem_cons_of_mem _ hy)
   by_cases h1 : z.from_ = s /\ actEq z.act a = true
   ·have e1 : againE (z :: es) s a = z.again := by simp [againE, h1]
    have e2 : nextE (z :: es) s a = some z.to := by simp [nextE, h1]
    rw [e1, e2]
    simp only [folE]
    by_cases h2 : z.again = b
    ·rw [if_pos ⟨h1.1, h1.2, h2⟩]
     simp [h2]
    ·rw [if_neg (fun h => h2 h.2.2)]
     simp only [h2, if_false]
     refine folE_none fun y hy hf ha hb => h2 ?_
     have := hu z (by simp) y (List.mem_cons_of_mem _ hy) (hf.trans h1.1.symm) (ha.trans (actEq_eq h1.2).symm)
     rw [<- this]
     exact hb
   ·have e1 : againE (z :: es) s a = againE es s a := by simp only [againE, h1, if_false]
    have e2 : nextE (z :: es) s a = nextE es s a := by simp only [nextE, h1, if_false]
    have e3 : folE (z :: es) s a b = folE es s a b := by
     simp only [folE]
     rw [if_neg (fun h => h1 ⟨h.1, h.2.1⟩)]
    rw [e1, e2, e3]
    exact ih
def toW (T : Tab) (h : Int) (x : Edg) : Int := if h < 0 \/ (renB T.labels x.act).2 = false \/ nextE T.new.edges h (renB T.labels x.act).1 = none \/ x.again ≠ againE T.new.edges h (renB T.labels x.act).1 then -1 else (nextE T.new.edges h (renB T.labels x.act).1).getD 0
theorem toW_eq {T : Tab} (hu : ∀ x ∈ T.new.edges, ∀ y ∈ T.new.edges, y.from_ = x.from_ -> y.act = x.act -> y = x) (h : Int) (x : Edg) : toW T h x = folB T h x := by
 unfold toW folB
 by_cases h0 : h < 0
 ·rw [if_pos (.inl h0), if_neg (fun q => by omega)]
 ·cases hr : (renB T.labels x.act).2 with
  | false => rw [if_pos (.inr (.inl rfl)), if_neg (fun q => by cases q.2)]
  | true =>
    rw [if_pos (show 0 <= h /\ true = true from ⟨by omega, rfl⟩), fol_next hu]
    cases hn : nextE T.new.edges h (renB T.labels x.act).1 with
    | none => simp
    | some t =>
      by_cases ha : againE T.new.edges h (renB T.labels x.act).1 = x.again
      ·simp [h0, ha]
      ·have ha' : ¬ x.again = againE T.new.edges h (renB T.labels x.act).1 := fun e => ha e.symm
       simp [ha, ha']
theorem f32 (g : Glob) (s : Int) (a : Inter) (hl : g.edges.length <= 1000000) : Impl Tryz.prog 32 [.ag (encG g), .one (.int .i64 s), .ag (encI a)] (.one (.one (.bool (againE g.edges s a)))) := by
 refine impl_w Tryz.func32 z32 Tryz.ntmps32 (by simp) ?_
 simp only [slotsOf]
 conv => arg 2; reduce
 repeat' first | refine St.go ?_ | ((with_reducible refine cn ?_ ?_) <;> intro h <;> (try simp at h) <;> try omega) | (refine Ru.go ?_; intro K hK; simp [go_sem, encG, encI]; (try simp (disch := omega) only [wx, z_i]); (first | apply hK | refine ⟨ob, ?_⟩ | refine ⟨hK _ ?_, fun h => ?_⟩ | refine ⟨?_, ?_⟩); all_goals ((try apply hK); clear hK K))
 refine z_k (fun n e => ∃ k : Nat, k + n = g.edges.length /\ againE (g.edges.drop k) s a = againE g.edges s a /\ e = [(12, .sv (.one (.int .i64 k))), (11, .sv (.one (.int .i64 g.edges.length))), (10, .sv (.one (.sl (g.edges.map encEd)))), (6, .sv (.one (.bool false))), (5, .sv (.one (.bx (encI a)))), (1, .sv (.one (.int .i64 s)))]) g.edges.length _ ⟨0, by simp, rfl, rfl⟩ (by simp [go_sem, encG, encI]) ?_
 rintro n e ⟨k, hk, h0, rfl⟩
 by_cases hlt : k < g.edges.length
 ·obtain ⟨x, hx⟩ : ∃ x, g.edges[k] = x := ⟨_, rfl⟩
  have hd : g.edges.drop k = x :: g.edges.drop (k + 1) := by rw [List.drop_eq_getElem_cons hlt, hx]
  rw [hd] at h0
  by_cases c1 : x.from_ = s
  ·cases c2 : actEq x.act a with
   | true =>
     have hv : againE (x :: g.edges.drop (k + 1)) s a = x.again := by simp [againE, c1, c2]
     rw [hv] at h0
     have c3 := c2
     simp only [actEq, Bool.and_eq_true, beq_iff_eq] at c3
     obtain ⟨⟨u1, u2⟩, u3⟩ := c3
     have q_ := aN hlt <| aN hx <| aN c1 <| aN u1 <| aN u2 <| u3
     repeat' first | refine St.go ?_ | ((with_reducible refine cn ?_ ?_) <;> intro h <;> (try simp [q_] at h) <;> try omega) | (refine Ru.go ?_; intro K hK; simp [go_sem, encEd, encI, q_]; (try simp (disch := omega) only [wx, z_i]); (first | apply hK | refine ⟨ob, ?_⟩ | refine ⟨hK _ ?_, fun h => ?_⟩ | refine ⟨?_, ?_⟩); all_goals ((try apply hK); clear hK K))
     all_goals try clear q_
     simp [go_sem, h0]
   | false =>
     have hv : againE (x :: g.edges.drop (k + 1)) s a = againE (g.edges.drop (k + 1)) s a := by simp [againE, c2]
     rw [hv] at h0
     have c3 : (x.act.from_ == a.from_ && (x.act.to == a.to && x.act.label == a.label)) = false := by
      rw [<- c2]
      simp only [actEq, Bool.and_assoc]
     repeat' first | refine St.go ?_ | ((with_reducible refine cn ?_ ?_) <;> intro h <;> (try simp [hlt, hx, c1, c3] at h) <;> try omega) | (refine Ru.go ?_; intro K hK; simp [go_sem, hlt, hx, c1, c3, encEd, encI]; (try simp (disch := omega) only [wx, z_i]); (first | apply hK | refine ⟨ob, ?_⟩ | refine ⟨hK _ ?_, fun h => ?_⟩ | refine ⟨?_, ?_⟩); all_goals ((try apply hK); clear hK K))
     refine z_j (n - 1) _ (by omega) ⟨k + 1, by omega, h0, rfl⟩ ?_
     simp [go_sem, encI]
  ·have hv : againE (x :: g.edges.drop (k + 1)) s a = againE (g.edges.drop (k + 1)) s a := by simp [againE, c1]
   rw [hv] at h0
   repeat' first | refine St.go ?_ | ((with_reducible refine cn ?_ ?_) <;> intro h <;> (try simp [hlt, hx, c1] at h) <;> try omega) | (refine Ru.go ?_; intro K hK; simp [go_sem, hlt, hx, c1, encEd, encI]; (try simp (disch := omega) only [wx, z_i]); (first | apply hK | refine ⟨ob, ?_⟩ | refine ⟨hK _ ?_, fun h => ?_⟩ | refine ⟨?_, ?_⟩); all_goals ((try apply hK); clear hK K))
   refine z_j (n - 1) _ (by omega) ⟨k + 1, by omega, h0, rfl⟩ ?_
   simp [go_sem, encI]
 ·have hd : g.edges.drop k = [] := List.drop_of_length_le (by omega)
  rw [hd] at h0
  have hv : againE g.edges s a = false := by rw [<- h0]; rfl
  rw [hv]
  repeat' first | refine St.go ?_ | ((with_reducible refine cn ?_ ?_) <;> intro h <;> (try simp [hlt] at h) <;> try omega) | (refine Ru.go ?_; intro K hK; simp [go_sem, hlt]; (try simp (disch := omega) only [wx, z_i]); (first | apply hK | refine ⟨ob, ?_⟩ | refine ⟨hK _ ?_, fun h => ?_⟩ | refine ⟨?_, ?_⟩); all_goals ((try apply hK); clear hK K))
  simp [go_sem]
end Go.Av
