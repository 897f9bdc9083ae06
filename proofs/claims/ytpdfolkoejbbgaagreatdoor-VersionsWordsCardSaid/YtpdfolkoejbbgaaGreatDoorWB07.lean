/- Part of a proof. -/
import Derived.Test.YtpdfolkoejbbgaaGreatDoorWB06
import Derived.Test.YtpdfolkoejbbgaaGreatDoorWB01
set_option linter.unusedVariables false
set_option linter.unusedSimpArgs false
set_option maxHeartbeats 64000000
set_option maxRecDepth 8000
namespace Go.Av
open Go Go.RowKit Go.Proofs
structure Tab where
 old : Glob
 new : Glob
 labels : List Int
 pairs : List (Int × Int)
 good : List Bool
def encTab (t : Tab) : List DV := encG t.old ++ (encG t.new ++ [.sl (t.labels.map encN), .sl (t.pairs.map encEq), .sl (t.good.map encBl)])
def renB (l : List Int) (a : Inter) : Inter × Bool := if 0 <= a.label /\ a.label < l.length /\ 0 <= l.getD a.label.toNat 0 then (⟨a.from_, a.to, l.getD a.label.toNat 0⟩, true) else (⟨0, 0, 0⟩, false)
def folE : List Edg -> Int -> Inter -> Bool -> Int
 | [], _, _, _ => -1
 | x :: es, s, a, b => if x.from_ = s /\ actEq x.act a = true /\ x.again = b then x.to else folE es s a b
def folB (t : Tab) (s : Int) (x : Edg) : Int := if 0 <= s /\ (renB t.labels x.act).2 = true then folE t.new.edges s (renB t.labels x.act).1 x.again else -1
theorem folE_at {es : List Edg} {s : Int} {a : Inter} {b : Bool} {k : Nat} (hk : k < es.length) : folE (es.drop k) s a b = if es[k].from_ = s /\ actEq es[k].act a = true /\ es[k].again = b then es[k].to else folE (es.drop (k + 1)) s a b := by
 rw [List.drop_eq_getElem_cons hk]
 rfl
theorem f54 (l : List (Int × Int)) (p : Int × Int) (hl : l.length <= 1000000) : Impl Tryz.prog 54 [.one (.sl (l.map encEq)), .ag (encEq p)] (.one (.one (.int .i64 (firstB (fun x => x.1 == p.1 && x.2 == p.2) l)))) := by
 refine impl_w Tryz.func54 z54 Tryz.ntmps54 (by simp) ?_
 simp only [slotsOf]
 conv => arg 2; reduce
 repeat' first | refine St.go ?_ | ((with_reducible refine cn ?_ ?_) <;> intro h <;> (try simp at h) <;> try omega) | (refine Ru.go ?_; intro K hK; simp [go_sem, encEq]; (try simp (disch := omega) only [wx, z_i]); (first | apply hK | refine ⟨ob, ?_⟩ | refine ⟨hK _ ?_, fun h => ?_⟩ | refine ⟨?_, ?_⟩); all_goals ((try apply hK); clear hK K))
 refine z_k (fun n e => ∃ k : Nat, k + n = l.length /\ (l.take k).any (fun x => x.1 == p.1 && x.2 == p.2) = false /\ e = [(5, .sv (.one (.int .i64 k))), (3, .sv (.one (.bx (encEq p)))), (0, .sv (.one (.sl (l.map encEq))))]) l.length _ ⟨0, by simp, by simp, rfl⟩ (by simp [go_sem, encEq]) ?_
 rintro n e ⟨k, hk, h0, rfl⟩
 by_cases hlt : k < l.length
 ·obtain ⟨⟨x1, x2⟩, hx⟩ : ∃ x, l[k] = x := ⟨_, rfl⟩
  cases hp : (x1 == p.1 && x2 == p.2) with
  | true =>
    have hf := firstB_at (p := fun x : Int × Int => x.1 == p.1 && x.2 == p.2) hlt h0 (by rw [hx]; exact hp)
    simp only [Bool.and_eq_true] at hp
    repeat' first | refine St.go ?_ | ((with_reducible refine cn ?_ ?_) <;> intro h <;> (try simp [hlt, hx] at h) <;> try omega) | (refine Ru.go ?_; intro K hK; simp [go_sem, hlt, hx, encEq, hp.1, hp.2]; (try simp (disch := omega) only [wx, z_i]); (first | apply hK | refine ⟨ob, ?_⟩ | refine ⟨hK _ ?_, fun h => ?_⟩ | refine ⟨?_, ?_⟩); all_goals ((try apply hK); clear hK K))
    simp [go_sem, hf]
  | false =>
    repeat' first | refine St.go ?_ | ((with_reducible refine cn ?_ ?_) <;> intro h <;> (try simp [hlt, hx, hp] at h) <;> try omega) | (refine Ru.go ?_; intro K hK; simp [go_sem, hlt, hx, encEq, hp]; (try simp (disch := omega) only [wx, z_i]); (first | apply hK | refine ⟨ob, ?_⟩ | refine ⟨hK _ ?_, fun h => ?_⟩ | refine ⟨?_, ?_⟩); all_goals ((try apply hK); clear hK K))
    refine z_j (n - 1) _ (by omega) ⟨k + 1, by omega, ?_, rfl⟩ ?_
    ·rw [any_succ hlt, h0, hx]; simp only; rw [hp]; rfl
    ·simp [go_sem, encEq]
 ·have hkl : l.take k = l := List.take_of_length_le (by omega)
  rw [hkl] at h0
  have hf := firstB_none h0
  repeat' first | refine St.go ?_ | ((with_reducible refine cn ?_ ?_) <;> intro h <;> (try simp [hlt] at h) <;> try omega) | (refine Ru.go ?_; intro K hK; simp [go_sem, hlt]; (try simp (disch := omega) only [wx, z_i]); (first | apply hK | refine ⟨ob, ?_⟩ | refine ⟨hK _ ?_, fun h => ?_⟩ | refine ⟨?_, ?_⟩); all_goals ((try apply hK); clear hK K))
  simp [go_sem, hf]
theorem f57 (l : List (Int × Int)) (p : Int × Int) (hl : l.length <= 1000000) : Impl Tryz.prog 57 [.one (.sl (l.map encEq)), .ag (encEq p)] (.one (.one (.int .i64 (firstB (fun x => p.1 == x.1 && p.2 == x.2) l)))) := by
 refine impl_w Tryz.func57 z57 Tryz.ntmps57 (by simp) ?_
 simp only [slotsOf]
 conv => arg 2; reduce
 repeat' first | refine St.go ?_ | ((with_reducible refine cn ?_ ?_) <;> intro h <;> (try simp at h) <;> try omega) | (refine Ru.go ?_; intro K hK; simp [go_sem, encEq]; (try simp (disch := omega) only [wx, z_i]); (first | apply hK | refine ⟨ob, ?_⟩ | refine ⟨hK _ ?_, fun h => ?_⟩ | refine ⟨?_, ?_⟩); all_goals ((try apply hK); clear hK K))
 refine z_k (fun n e => ∃ k : Nat, k + n = l.length /\ (l.take k).any (fun x => p.1 == x.1 && p.2 == x.2) = false /\ e = [(8, .sv (.one (.int .i64 k))), (7, .sv (.one (.int .i64 l.length))), (3, .sv (.one (.bx (encEq p)))), (0, .sv (.one (.sl (l.map encEq))))]) l.length _ ⟨0, by simp, by simp, rfl⟩ (by simp [go_sem, encEq]) ?_
 rintro n e ⟨k, hk, h0, rfl⟩
 by_cases hlt : k < l.length
 ·obtain ⟨⟨x1, x2⟩, hx⟩ : ∃ x, l[k] = x := ⟨_, rfl⟩
  cases hp : (p.1 == x1 && p.2 == x2) with
  | true =>
    have hf := firstB_at (p := fun x : Int × Int => p.1 == x.1 && p.2 == x.2) hlt h0 (by rw [hx]; exact hp)
    simp only [Bool.and_eq_true] at hp
    repeat' first | refine St.go ?_ | ((with_reducible refine cn ?_ ?_) <;> intro h <;> (try simp [hlt, hx] at h) <;> try omega) | (refine Ru.go ?_; intro K hK; simp [go_sem, hlt, hx, encEq, hp.1, hp.2]; (try simp (disch := omega) only [wx, z_i]); (first | apply hK | refine ⟨ob, ?_⟩ | refine ⟨hK _ ?_, fun h => ?_⟩ | refine ⟨?_, ?_⟩); all_goals ((try apply hK); clear hK K))
    simp [go_sem, hf]
  | false =>
    repeat' first | refine St.go ?_ | ((with_reducible refine cn ?_ ?_) <;> intro h <;> (try simp [hlt, hx, hp] at h) <;> try omega) | (refine Ru.go ?_; intro K hK; simp [go_sem, hlt, hx, encEq, hp]; (try simp (disch := omega) only [wx, z_i]); (first | apply hK | refine ⟨ob, ?_⟩ | refine ⟨hK _ ?_, fun h => ?_⟩ | refine ⟨?_, ?_⟩); all_goals ((try apply hK); clear hK K))
    refine z_j (n - 1) _ (by omega) ⟨k + 1, by omega, ?_, rfl⟩ ?_
    ·rw [any_succ hlt, h0, hx]; simp only; rw [hp]; rfl
    ·simp [go_sem, encEq]
 ·have hkl : l.take k = l := List.take_of_length_le (by omega)
  rw [hkl] at h0
  have hf := firstB_none h0
  repeat' first | refine St.go ?_ | ((with_reducible refine cn ?_ ?_) <;> intro h <;> (try simp [hlt] at h) <;> try omega) | (refine Ru.go ?_; intro K hK; simp [go_sem, hlt]; (try simp (disch := omega) only [wx, z_i]); (first | apply hK | refine ⟨ob, ?_⟩ | refine ⟨hK _ ?_, fun h => ?_⟩ | refine ⟨?_, ?_⟩); all_goals ((try apply hK); clear hK K))
  simp [go_sem, hf]
theorem f24 (t : Tab) (a : Inter) : Impl Tryz.prog 24 [.ag (encTab t), .ag (encI a)] (.tup [.ag (encI (renB t.labels a).1), .one (.bool (renB t.labels a).2)]) := by
 refine impl_w Tryz.func24 z24 Tryz.ntmps24 (by simp) ?_
 simp only [slotsOf]
 conv => arg 2; reduce
 by_cases h1 : 0 <= a.label
 ·by_cases h2 : a.label < t.labels.length
  ·have hlt : a.label.toNat < t.labels.length := by omega
   obtain ⟨v, hv⟩ : ∃ v, t.labels[a.label.toNat] = v := ⟨_, rfl⟩
   have hg : t.labels.getD a.label.toNat 0 = v := by rw [List.getD_eq_getElem?_getD, List.getElem?_eq_getElem hlt, hv]; rfl
   have n1 : ¬ a.label < 0 := by omega
   have n2 : ¬ (t.labels.length : Int) <= a.label := by omega
   by_cases h3 : 0 <= v
   ·have hr : renB t.labels a = (⟨a.from_, a.to, v⟩, true) := by unfold renB; rw [hg, if_pos ⟨h1, h2, h3⟩]
    have n3 : ¬ v < 0 := by omega
    rw [hr]
    have q_ := aN n1 <| aN n2 <| aN n3 <| aN h1 <| aN hlt <| hv
    repeat' first | refine St.go ?_ | ((with_reducible refine cn ?_ ?_) <;> intro h <;> (try simp [q_] at h) <;> try omega) | (refine Ru.go ?_; intro K hK; simp [go_sem, encTab, encG, encI, encN, q_]; (first | apply hK | refine ⟨ob, ?_⟩ | refine ⟨hK _ ?_, fun h => ?_⟩ | refine ⟨?_, ?_⟩); all_goals ((try apply hK); clear hK K))
    all_goals try clear q_
    simp [go_sem, encI]
   ·have hr : renB t.labels a = (⟨0, 0, 0⟩, false) := by unfold renB; rw [hg, if_neg (fun h => h3 h.2.2)]
    have n3 : v < 0 := by omega
    rw [hr]
    have q_ := aN n1 <| aN n2 <| aN n3 <| aN h1 <| aN hlt <| hv
    repeat' first | refine St.go ?_ | ((with_reducible refine cn ?_ ?_) <;> intro h <;> (try simp [q_] at h) <;> try omega) | (refine Ru.go ?_; intro K hK; simp [go_sem, encTab, encG, encI, encN, q_]; (first | apply hK | refine ⟨ob, ?_⟩ | refine ⟨hK _ ?_, fun h => ?_⟩ | refine ⟨?_, ?_⟩); all_goals ((try apply hK); clear hK K))
    all_goals try clear q_
    simp [go_sem, encI]
  ·have hr : renB t.labels a = (⟨0, 0, 0⟩, false) := by unfold renB; rw [if_neg (fun h => h2 h.2.1)]
   have n1 : ¬ a.label < 0 := by omega
   have n2 : (t.labels.length : Int) <= a.label := by omega
   have n3 : t.labels[a.label.toNat]? = none := List.getElem?_eq_none (by omega)
   rw [hr]
   repeat' first | refine St.go ?_ | ((with_reducible refine cn ?_ ?_) <;> intro h <;> (try simp [n1, n2, n3] at h) <;> try omega) | (refine Ru.go ?_; intro K hK; simp [go_sem, encTab, encG, encI, encN, n1, n2, n3]; (first | apply hK | refine ⟨ob, ?_⟩ | refine ⟨hK _ ?_, fun h => ?_⟩ | refine ⟨?_, ?_⟩); all_goals ((try apply hK); clear hK K))
   simp [go_sem, encI]
 ·have hr : renB t.labels a = (⟨0, 0, 0⟩, false) := by unfold renB; rw [if_neg (fun h => h1 h.1)]
  have n1 : a.label < 0 := by omega
  rw [hr]
  cases hv : t.labels[a.label.toNat]? with
  | none =>
    repeat' first | refine St.go ?_ | ((with_reducible refine cn ?_ ?_) <;> intro h <;> (try simp [n1, hv] at h) <;> try omega) | (refine Ru.go ?_; intro K hK; simp [go_sem, encTab, encG, encI, encN, n1, hv]; (first | apply hK | refine ⟨ob, ?_⟩ | refine ⟨hK _ ?_, fun h => ?_⟩ | refine ⟨?_, ?_⟩); all_goals ((try apply hK); clear hK K))
    simp [go_sem, encI]
  | some v =>
    repeat' first | refine St.go ?_ | ((with_reducible refine cn ?_ ?_) <;> intro h <;> (try simp [n1, hv] at h) <;> try omega) | (refine Ru.go ?_; intro K hK; simp [go_sem, encTab, encG, encI, encN, n1, hv]; (first | apply hK | refine ⟨ob, ?_⟩ | refine ⟨hK _ ?_, fun h => ?_⟩ | refine ⟨?_, ?_⟩); all_goals ((try apply hK); clear hK K))
    simp [go_sem, encI]
theorem f25 (t : Tab) (a : Inter) : Impl Tryz.prog 25 [.ag (encTab t), .ag (encI a)] (.tup [.ag (encI (renB t.labels a).1), .one (.bool (renB t.labels a).2)]) := by
 refine impl_w Tryz.func25 z25 Tryz.ntmps25 (by simp) ?_
 simp only [slotsOf]
 conv => arg 2; reduce
 by_cases h1 : 0 <= a.label
 ·by_cases h2 : a.label < t.labels.length
  ·have hlt : a.label.toNat < t.labels.length := by omega
   obtain ⟨v, hv⟩ : ∃ v, t.labels[a.label.toNat] = v := ⟨_, rfl⟩
   have hg : t.labels.getD a.label.toNat 0 = v := by rw [List.getD_eq_getElem?_getD, List.getElem?_eq_getElem hlt, hv]; rfl
   have n1 : ¬ a.label < 0 := by omega
   have n2 : ¬ (t.labels.length : Int) <= a.label := by omega
   by_cases h3 : 0 <= v
   ·have hr : renB t.labels a = (⟨a.from_, a.to, v⟩, true) := by unfold renB; rw [hg, if_pos ⟨h1, h2, h3⟩]
    have n3 : ¬ v < 0 := by omega
    rw [hr]
    have q_ := aN n1 <| aN n2 <| aN n3 <| aN h1 <| aN hlt <| hv
    repeat' first | refine St.go ?_ | ((with_reducible refine cn ?_ ?_) <;> intro h <;> (try simp [q_] at h) <;> try omega) | (refine Ru.go ?_; intro K hK; simp [go_sem, encTab, encG, encI, encN, q_]; (first | apply hK | refine ⟨ob, ?_⟩ | refine ⟨hK _ ?_, fun h => ?_⟩ | refine ⟨?_, ?_⟩); all_goals ((try apply hK); clear hK K))
    all_goals try clear q_
    simp [go_sem, encI]
   ·have hr : renB t.labels a = (⟨0, 0, 0⟩, false) := by unfold renB; rw [hg, if_neg (fun h => h3 h.2.2)]
    have n3 : v < 0 := by omega
    rw [hr]
    have q_ := aN n1 <| aN n2 <| aN n3 <| aN h1 <| aN hlt <| hv
    repeat' first | refine St.go ?_ | ((with_reducible refine cn ?_ ?_) <;> intro h <;> (try simp [q_] at h) <;> try omega) | (refine Ru.go ?_; intro K hK; simp [go_sem, encTab, encG, encI, encN, q_]; (first | apply hK | refine ⟨ob, ?_⟩ | refine ⟨hK _ ?_, fun h => ?_⟩ | refine ⟨?_, ?_⟩); all_goals ((try apply hK); clear hK K))
    all_goals try clear q_
    simp [go_sem, encI]
  ·have hr : renB t.labels a = (⟨0, 0, 0⟩, false) := by unfold renB; rw [if_neg (fun h => h2 h.2.1)]
   have n1 : ¬ a.label < 0 := by omega
   have n2 : (t.labels.length : Int) <= a.label := by omega
   have n3 : t.labels[a.label.toNat]? = none := List.getElem?_eq_none (by omega)
   rw [hr]
   repeat' first | refine St.go ?_ | ((with_reducible refine cn ?_ ?_) <;> intro h <;> (try simp [n1, n2, n3] at h) <;> try omega) | (refine Ru.go ?_; intro K hK; simp [go_sem, encTab, encG, encI, encN, n1, n2, n3]; (first | apply hK | refine ⟨ob, ?_⟩ | refine ⟨hK _ ?_, fun h => ?_⟩ | refine ⟨?_, ?_⟩); all_goals ((try apply hK); clear hK K))
   simp [go_sem, encI]
 ·have hr : renB t.labels a = (⟨0, 0, 0⟩, false) := by unfold renB; rw [if_neg (fun h => h1 h.1)]
  have n1 : a.label < 0 := by omega
  rw [hr]
  cases hv : t.labels[a.label.toNat]? with
  | none =>
    repeat' first | refine St.go ?_ | ((with_reducible refine cn ?_ ?_) <;> intro h <;> (try simp [n1, hv] at h) <;> try omega) | (refine Ru.go ?_; intro K hK; simp [go_sem, encTab, encG, encI, encN, n1, hv]; (first | apply hK | refine ⟨ob, ?_⟩ | refine ⟨hK _ ?_, fun h => ?_⟩ | refine ⟨?_, ?_⟩); all_goals ((try apply hK); clear hK K))
    simp [go_sem, encI]
  | some v =>
    repeat' first | refine St.go ?_ | ((with_reducible refine cn ?_ ?_) <;> intro h <;> (try simp [n1, hv] at h) <;> try omega) | (refine Ru.go ?_; intro K hK; simp [go_sem, encTab, encG, encI, encN, n1, hv]; (first | apply hK | refine ⟨ob, ?_⟩ | refine ⟨hK _ ?_, fun h => ?_⟩ | refine ⟨?_, ?_⟩); all_goals ((try apply hK); clear hK K))
    simp [go_sem, encI]
theorem f47 (t : Tab) (s : Int) (x : Edg) (hl : t.new.edges.length <= 1000000) : Impl Tryz.prog 47 [.ag (encTab t), .one (.int .i64 s), .ag (encEd x)] (.one (.one (.int .i64 (folB t s x)))) := by
 have k1 := f24 t x.act
 obtain ⟨⟨⟨r1, r2, r3⟩, b⟩, hr⟩ : ∃ v, renB t.labels x.act = v := ⟨_, rfl⟩
 rw [hr] at k1
 simp only [encTab, encG, encI, List.cons_append, List.nil_append] at k1
 have hfo : folB t s x = if 0 <= s /\ b = true then folE t.new.edges s ⟨r1, r2, r3⟩ x.again else -1 := by unfold folB; rw [hr]
 rw [hfo]
 clear hr hfo
 refine impl_w Tryz.func47 z47 Tryz.ntmps47 (by simp) ?_
 simp only [slotsOf]
 conv => arg 2; reduce
 cases b with
 | false =>
   repeat' first | refine St.go ?_ | ((with_reducible refine cn ?_ ?_) <;> intro h <;> (try simp at h) <;> try omega) | (refine Ru.go ?_; intro K hK; simp [go_sem, encTab, encG, encI, encEd]; (try simp (disch := omega) only [wx, z_i]); (first | apply hK | ((try refine .inl ?_); refine ⟨_, by (repeat' first | exact k1 | refine And.intro ?_ ?_ | simp [go_sem, encTab, encG, encI, encEd]); first | done | omega, ?_⟩; first | apply hK | (refine ⟨by simp [go_sem, encTab, encG, encI, encEd], ?_⟩; apply hK)) | refine ⟨ob, ?_⟩ | refine ⟨hK _ ?_, fun h => ?_⟩ | refine ⟨?_, ?_⟩); all_goals ((try apply hK); clear hK K))
   simp [go_sem]
 | true =>
   by_cases hh : s < 0
   ·rw [if_neg (fun q => by omega)]
    repeat' first | refine St.go ?_ | ((with_reducible refine cn ?_ ?_) <;> intro h <;> (try simp [hh] at h) <;> try omega) | (refine Ru.go ?_; intro K hK; simp [go_sem, encTab, encG, encI, encEd, hh]; (try simp (disch := omega) only [wx, z_i]); (first | apply hK | ((try refine .inl ?_); refine ⟨_, by (repeat' first | exact k1 | refine And.intro ?_ ?_ | simp [go_sem, encTab, encG, encI, encEd, hh]); first | done | omega, ?_⟩; first | apply hK | (refine ⟨by simp [go_sem, encTab, encG, encI, encEd, hh], ?_⟩; apply hK)) | refine ⟨ob, ?_⟩ | refine ⟨hK _ ?_, fun h => ?_⟩ | refine ⟨?_, ?_⟩); all_goals ((try apply hK); clear hK K))
    simp [go_sem]
   ·have hh2 : 0 <= s := by omega
    rw [if_pos ⟨hh2, rfl⟩]
    repeat' first | refine St.go ?_ | ((with_reducible refine cn ?_ ?_) <;> intro h <;> (try simp [hh, hh2] at h) <;> try omega) | (refine Ru.go ?_; intro K hK; simp [go_sem, encTab, encG, encI, encEd, hh, hh2]; (try simp (disch := omega) only [wx, z_i]); (first | apply hK | ((try refine .inl ?_); refine ⟨_, by (repeat' first | exact k1 | refine And.intro ?_ ?_ | simp [go_sem, encTab, encG, encI, encEd, hh, hh2]); first | done | omega, ?_⟩; first | apply hK | (refine ⟨by simp [go_sem, encTab, encG, encI, encEd, hh, hh2], ?_⟩; apply hK)) | refine ⟨ob, ?_⟩ | refine ⟨hK _ ?_, fun h => ?_⟩ | refine ⟨?_, ?_⟩); all_goals ((try apply hK); clear hK K))
    refine z_k (fun n e => ∃ k : Nat, k + n = t.new.edges.length /\ folE t.new.edges s ⟨r1, r2, r3⟩ x.again = folE (t.new.edges.drop k) s ⟨r1, r2, r3⟩ x.again /\ e = [(28, .sv (.one (.int .i64 k))), (27, .sv (.one (.int .i64 t.new.edges.length))), (26, .sv (.one (.sl (t.new.edges.map encEd)))), (7, .sv (.one (.bx (encI ⟨r1, r2, r3⟩)))), (5, .sv (.one (.bx (encEd x)))), (1, .sv (.one (.int .i64 s)))]) t.new.edges.length _ ⟨0, by simp, by simp, rfl⟩ (by simp [go_sem, encI, encEd]) ?_
    rintro n e ⟨k, hk, h0, rfl⟩
    by_cases hlt : k < t.new.edges.length
    ·obtain ⟨y, hy⟩ : ∃ y, t.new.edges[k] = y := ⟨_, rfl⟩
     have hq := folE_at (s := s) (a := ⟨r1, r2, r3⟩) (b := x.again) hlt
     rw [hy] at hq
     repeat' first | refine St.go ?_ | ((with_reducible refine cn ?_ ?_) <;> intro h <;> (try simp [hlt, hy] at h) <;> try omega) | (refine Ru.go ?_; intro K hK; simp [go_sem, hlt, hy, encEd, encI]; (try simp (disch := omega) only [wx, z_i]); (first | apply hK | refine ⟨ob, ?_⟩ | refine ⟨hK _ ?_, fun h => ?_⟩ | refine ⟨?_, ?_⟩); all_goals ((try apply hK); clear hK K))
     ·obtain ⟨⟨q1, q2, q3, q4⟩, q5⟩ := h
      rw [if_pos ⟨q1, by simp [actEq, q2, q3, q4], q5⟩] at hq
      simp [go_sem, h0, hq]
     ·rw [if_neg (fun q => by have q2 := q.2.1; simp only [actEq, Bool.and_eq_true, beq_iff_eq] at q2; exact h q.1 q2.1.1 q2.1.2 q2.2 q.2.2)] at hq
      refine z_j (n - 1) _ (by omega) ⟨k + 1, by omega, h0.trans hq, rfl⟩ ?_
      simp [go_sem, encI, encEd]
    ·have hd : t.new.edges.drop k = [] := List.drop_eq_nil_of_le (by omega)
     rw [hd] at h0
     repeat' first | refine St.go ?_ | ((with_reducible refine cn ?_ ?_) <;> intro h <;> (try simp [hlt] at h) <;> try omega) | (refine Ru.go ?_; intro K hK; simp [go_sem, hlt]; (try simp (disch := omega) only [wx, z_i]); (first | apply hK | refine ⟨ob, ?_⟩ | refine ⟨hK _ ?_, fun h => ?_⟩ | refine ⟨?_, ?_⟩); all_goals ((try apply hK); clear hK K))
     simp [go_sem, folE, h0]
theorem f53 (t : Tab) (s : Int) (x : Edg) (hl : t.new.edges.length <= 1000000) (h1 : 0 <= x.act.label) (h2 : x.act.label < t.labels.length) : Impl Tryz.prog 53 [.ag (encTab t), .one (.int .i64 s), .ag (encEd x)] (.one (.one (.int .i64 (folB t s x)))) := by
 have hlt : x.act.label.toNat < t.labels.length := by omega
 obtain ⟨v, hv⟩ : ∃ v, t.labels[x.act.label.toNat] = v := ⟨_, rfl⟩
 have hg : t.labels.getD x.act.label.toNat 0 = v := by rw [List.getD_eq_getElem?_getD, List.getElem?_eq_getElem hlt, hv]; rfl
 have hfo : folB t s x = if 0 <= s /\ 0 <= v then folE t.new.edges s ⟨x.act.from_, x.act.to, v⟩ x.again else -1 := by
  unfold folB renB
  rw [hg]
  by_cases h3 : 0 <= v <;> simp [h1, h2, h3]
 rw [hfo]
 clear hfo hg
 refine impl_w Tryz.func53 z53 Tryz.ntmps53 (by simp) ?_
 simp only [slotsOf]
 conv => arg 2; reduce
 by_cases hh : s < 0
 ·rw [if_neg (fun q => by omega)]
  repeat' first | refine St.go ?_ | ((with_reducible refine cn ?_ ?_) <;> intro h <;> (try simp [hh, h1, hlt, hv] at h) <;> try omega) | (refine Ru.go ?_; intro K hK; simp [go_sem, encTab, encG, encI, encN, encEd, hh, h1, hlt, hv]; (try simp (disch := omega) only [wx, z_i]); (first | apply hK | refine ⟨ob, ?_⟩ | refine ⟨hK _ ?_, fun h => ?_⟩ | refine ⟨?_, ?_⟩); all_goals ((try apply hK); clear hK K))
  simp [go_sem]
 ·have hh2 : 0 <= s := by omega
  by_cases h3 : v < 0
  ·rw [if_neg (fun q => by omega)]
   have q_ := aN hh <| aN h1 <| aN hlt <| aN hv <| h3
   repeat' first | refine St.go ?_ | ((with_reducible refine cn ?_ ?_) <;> intro h <;> (try simp [q_] at h) <;> try omega) | (refine Ru.go ?_; intro K hK; simp [go_sem, encTab, encG, encI, encN, encEd, q_]; (try simp (disch := omega) only [wx, z_i]); (first | apply hK | refine ⟨ob, ?_⟩ | refine ⟨hK _ ?_, fun h => ?_⟩ | refine ⟨?_, ?_⟩); all_goals ((try apply hK); clear hK K))
   all_goals try clear q_
   simp [go_sem]
  ·have h4 : 0 <= v := by omega
   rw [if_pos ⟨hh2, h4⟩]
   have q_ := aN hh <| aN h1 <| aN hlt <| aN hv <| h3
   repeat' first | refine St.go ?_ | ((with_reducible refine cn ?_ ?_) <;> intro h <;> (try simp [q_] at h) <;> try omega) | (refine Ru.go ?_; intro K hK; simp [go_sem, encTab, encG, encI, encN, encEd, q_]; (try simp (disch := omega) only [wx, z_i]); (first | apply hK | refine ⟨ob, ?_⟩ | refine ⟨hK _ ?_, fun h => ?_⟩ | refine ⟨?_, ?_⟩); all_goals ((try apply hK); clear hK K))
   all_goals try clear q_
   refine z_k (fun n e => ∃ k : Nat, k + n = t.new.edges.length /\ folE t.new.edges s ⟨x.act.from_, x.act.to, v⟩ x.again = folE (t.new.edges.drop k) s ⟨x.act.from_, x.act.to, v⟩ x.again /\ e = [(8, .sv (.one (.int .i64 k))), (7, .sv (.one (.bx (encI ⟨x.act.from_, x.act.to, v⟩)))), (5, .sv (.one (.bx (encEd x)))), (3, .sv (.one (.bx (encTab t)))), (1, .sv (.one (.int .i64 s)))]) t.new.edges.length _ ⟨0, by simp, by simp, rfl⟩ (by simp [go_sem, encI, encEd, encTab, encG]) ?_
   rintro n e ⟨k, hk, h0, rfl⟩
   by_cases hkl : k < t.new.edges.length
   ·obtain ⟨y, hy⟩ : ∃ y, t.new.edges[k] = y := ⟨_, rfl⟩
    have hq := folE_at (s := s) (a := ⟨x.act.from_, x.act.to, v⟩) (b := x.again) hkl
    rw [hy] at hq
    repeat' first | refine St.go ?_ | ((with_reducible refine cn ?_ ?_) <;> intro h <;> (try simp [hkl, hy] at h) <;> try omega) | (refine Ru.go ?_; intro K hK; simp [go_sem, hkl, hy, encTab, encG, encEd, encI]; (try simp (disch := omega) only [wx, z_i]); (first | apply hK | refine ⟨ob, ?_⟩ | refine ⟨hK _ ?_, fun h => ?_⟩ | refine ⟨?_, ?_⟩); all_goals ((try apply hK); clear hK K))
    ·obtain ⟨⟨q1, q2, q3, q4⟩, q5⟩ := h
     rw [if_pos ⟨q1, by simp [actEq, q2, q3, q4], q5⟩] at hq
     simp [go_sem, h0, hq]
    ·rw [if_neg (fun q => by have q2 := q.2.1; simp only [actEq, Bool.and_eq_true, beq_iff_eq] at q2; exact h q.1 q2.1.1 q2.1.2 q2.2 q.2.2)] at hq
     refine z_j (n - 1) _ (by omega) ⟨k + 1, by omega, h0.trans hq, rfl⟩ ?_
     simp [go_sem, encI, encEd, encTab, encG]
   ·have hd : t.new.edges.drop k = [] := List.drop_eq_nil_of_le (by omega)
    rw [hd] at h0
    repeat' first | refine St.go ?_ | ((with_reducible refine cn ?_ ?_) <;> intro h <;> (try simp [hkl] at h) <;> try omega) | (refine Ru.go ?_; intro K hK; simp [go_sem, hkl, encTab, encG]; (try simp (disch := omega) only [wx, z_i]); (first | apply hK | refine ⟨ob, ?_⟩ | refine ⟨hK _ ?_, fun h => ?_⟩ | refine ⟨?_, ?_⟩); all_goals ((try apply hK); clear hK K))
    simp [go_sem, folE, h0]
def isP (p x : Int × Int) : Bool := x.1 == p.1 && x.2 == p.2
def placeB (t : Tab) (p : Int × Int) : Int := firstB (isP p) t.pairs
def atE (s : Int) (a : Inter) (x : Edg) : Bool := x.from_ == s && actEq x.act a
def afterP (t : Tab) (i : Int) (a : Inter) : Option Int := if 0 <= i then match t.pairs[i.toNat]? with
 | some p => (t.old.edges.find? (atE p.1 a)).map fun x => placeB t (x.to, folB t p.2 x)
 | none => none else none
def afterV (t : Tab) (i : Int) (a : Inter) : Int × Bool := match afterP t i a with
 | some k => (max k 0, decide (0 <= k))
 | none => (0, false)
def afterR (t : Tab) (i : Int) (a : Inter) : Int × Bool := match afterP t i a with
 | some k => (max 0 k, true)
 | none => (0, false)
theorem g57 (t : Tab) (hp : t.pairs.length <= 1000000) (q : Int × Int) : Impl Tryz.prog 57 [.one (.sl (t.pairs.map encEq)), .ag (encEq q)] (.one (.one (.int .i64 (placeB t q)))) := by
 have h := f57 t.pairs q hp
 have e : (fun x : Int × Int => q.1 == x.1 && q.2 == x.2) = isP q := by
  funext x
  simp only [isP, Bool.beq_comm]
 rw [e] at h
 exact h
theorem f22 (t : Tab) (i : Int) (a : Inter) (ho : t.old.edges.length <= 1000000) (hn : t.new.edges.length <= 1000000) (hp : t.pairs.length <= 1000000) :
  Impl Tryz.prog 22 [.ag (encTab t), .one (.int .i64 i), .ag (encI a)] (.tup [.one (.int .i64 (afterV t i a).1), .one (.bool (afterV t i a).2)]) := by
 have j1 : ∀ s x, Impl Tryz.prog 47 [.ag (encTab t), .one (.int .i64 s), .ag (encEd x)] (.one (.one (.int .i64 (folB t s x)))) := fun s x => f47 t s x hn
 have j2 := g57 t hp
 simp only [encTab, encG, encEd, encEq, List.cons_append, List.nil_append] at j1
 simp only [encEq] at j2
 refine impl_w Tryz.func22 z22 Tryz.ntmps22 (by simp) ?_
 simp only [slotsOf]
 conv => arg 2; reduce
 by_cases h1 : i < 0
 ·have hF : afterV t i a = (0, false) := by
   have : ¬ 0 <= i := by omega
   simp [afterV, afterP, this]
  rw [hF]
  repeat' first | refine St.go ?_ | ((with_reducible refine cn ?_ ?_) <;> intro h <;> (try simp [h1] at h) <;> try omega) | (refine Ru.go ?_; intro K hK; simp [go_sem, encTab, encG, encI, h1]; (try simp (disch := omega) only [wx, z_i]); (first | apply hK | refine ⟨ob, ?_⟩ | refine ⟨hK _ ?_, fun h => ?_⟩ | refine ⟨?_, ?_⟩); all_goals ((try apply hK); clear hK K))
  simp [go_sem]
 ·have h1' : 0 <= i := by omega
  by_cases h2 : i < t.pairs.length
  ·have hl : i.toNat < t.pairs.length := by omega
   obtain ⟨⟨p1, p2⟩, hpi⟩ : ∃ p, t.pairs[i.toNat] = p := ⟨_, rfl⟩
   have hA : afterP t i a = (t.old.edges.find? (atE p1 a)).map fun x => placeB t (x.to, folB t p2 x) := by
    unfold afterP
    rw [if_pos h1', List.getElem?_eq_getElem hl, hpi]
   have n2 : ¬ (t.pairs.length : Int) <= i := by omega
   repeat' first | refine St.go ?_ | ((with_reducible refine cn ?_ ?_) <;> intro h <;> (try simp [h1, n2, hl, hpi] at h) <;> try omega) | (refine Ru.go ?_; intro K hK; simp [go_sem, encTab, encG, encI, encEq, h1, n2, hl, hpi]; (try simp (disch := omega) only [wx, z_i]); (first | apply hK | refine ⟨ob, ?_⟩ | refine ⟨hK _ ?_, fun h => ?_⟩ | refine ⟨?_, ?_⟩); all_goals ((try apply hK); clear hK K))
   refine z_k (fun n e => ∃ k : Nat, k + n = t.old.edges.length /\ (t.old.edges.take k).any (atE p1 a) = false /\ e = [(30, .sv (.one (.int .i64 k))), (29, .sv (.one (.int .i64 t.old.edges.length))), (28, .sv (.one (.sl (t.old.edges.map encEd)))), (8, .sv (.one (.bx (encEq (p1, p2))))), (5, .sv (.one (.bx (encI a)))), (3, .sv (.one (.bx (encTab t))))]) t.old.edges.length _ ⟨0, by simp, by simp, rfl⟩ (by simp [go_sem, encTab, encG, encEq, encI]) ?_
   rintro n e ⟨k, hk, h0, rfl⟩
   by_cases hlt : k < t.old.edges.length
   ·obtain ⟨x, hx⟩ : ∃ x, t.old.edges[k] = x := ⟨_, rfl⟩
    have k1 := j1 p2 x
    have k2 := j2 (x.to, folB t p2 x)
    obtain ⟨v, hv⟩ : ∃ v, folB t p2 x = v := ⟨_, rfl⟩
    obtain ⟨w, hw⟩ : ∃ w, placeB t (x.to, v) = w := ⟨_, rfl⟩
    rw [hv] at k1 k2
    simp only [hw] at k2
    cases c1 : atE p1 a x with
    | true =>
      have hf := find_at (p := atE p1 a) hlt h0 (by rw [hx]; exact c1)
      rw [hx] at hf
      have hR : afterV t i a = (max w 0, decide (0 <= w)) := by
       unfold afterV
       rw [hA, hf]
       simp [hv, hw]
      simp only [atE, actEq, Bool.and_eq_true, beq_iff_eq] at c1
      obtain ⟨u1, ⟨u2, u3⟩, u4⟩ := c1
      rw [hR]
      rw [u1, u2, u3, u4] at k1
      have q_ := aN hlt <| aN hx <| aN u1 <| aN u2 <| aN u3 <| u4
      repeat' first | refine St.go ?_ | ((with_reducible refine cn ?_ ?_) <;> intro h <;> (try simp [q_] at h) <;> try omega) | (refine Ru.go ?_; intro K hK; simp [go_sem, encTab, encG, encEq, encEd, encI, q_]; (try simp (disch := omega) only [wx, z_i]); (first | apply hK | ((try refine .inl ?_); refine ⟨_, by (repeat' first | exact k1 | exact k2 | refine And.intro ?_ ?_ | simp [go_sem, encTab, encG, encEq, encEd, encI, q_]); first | done | omega, ?_⟩; first | apply hK | (refine ⟨by simp [go_sem, encTab, encG, encEq, encEd, encI, q_], ?_⟩; first | apply hK | refine ⟨by simp [go_sem, encTab, encG, encEq, encEd, encI, q_], hK _ _ ?_⟩)) | refine ⟨ob, ?_⟩ | refine ⟨hK _ ?_, fun h => ?_⟩ | refine ⟨?_, ?_⟩); all_goals ((try apply hK); clear hK K))
      all_goals try clear q_
      simp [go_sem]
    | false =>
      have c2 : (x.from_ == p1 && (x.act.from_ == a.from_ && (x.act.to == a.to && x.act.label == a.label))) = false := by
       rw [<- c1]
       simp only [atE, actEq, Bool.and_assoc]
      have q_ := aN hlt <| aN hx <| c2
      repeat' first | refine St.go ?_ | ((with_reducible refine cn ?_ ?_) <;> intro h <;> (try simp [q_] at h) <;> try omega) | (refine Ru.go ?_; intro K hK; simp [go_sem, encTab, encG, encEq, encEd, encI, q_]; (try simp (disch := omega) only [wx, z_i]); (first | apply hK | ((try refine .inl ?_); refine ⟨_, by (repeat' first | exact k1 | exact k2 | refine And.intro ?_ ?_ | simp [go_sem, encTab, encG, encEq, encEd, encI, q_]); first | done | omega, ?_⟩; first | apply hK | (refine ⟨by simp [go_sem, encTab, encG, encEq, encEd, encI, q_], ?_⟩; first | apply hK | refine ⟨by simp [go_sem, encTab, encG, encEq, encEd, encI, q_], hK _ _ ?_⟩)) | refine ⟨ob, ?_⟩ | refine ⟨hK _ ?_, fun h => ?_⟩ | refine ⟨?_, ?_⟩); all_goals ((try apply hK); clear hK K))
      all_goals try clear q_
      refine z_j (n - 1) _ (by omega) ⟨k + 1, by omega, ?_, rfl⟩ ?_
      ·rw [any_succ hlt, h0, hx, c1]; rfl
      ·simp [go_sem, encTab, encG, encEq, encI]
   ·have hkl : t.old.edges.take k = t.old.edges := List.take_of_length_le (by omega)
    rw [hkl] at h0
    have hf := find_none h0
    have hR : afterV t i a = (0, false) := by
     unfold afterV
     rw [hA, hf]
     rfl
    rw [hR]
    repeat' first | refine St.go ?_ | ((with_reducible refine cn ?_ ?_) <;> intro h <;> (try simp [hlt] at h) <;> try omega) | (refine Ru.go ?_; intro K hK; simp [go_sem, hlt]; (try simp (disch := omega) only [wx, z_i]); (first | apply hK | refine ⟨ob, ?_⟩ | refine ⟨hK _ ?_, fun h => ?_⟩ | refine ⟨?_, ?_⟩); all_goals ((try apply hK); clear hK K))
    simp [go_sem]
  ·have hF : afterV t i a = (0, false) := by
    have : t.pairs[i.toNat]? = none := List.getElem?_eq_none (by omega)
    simp [afterV, afterP, this]
   have n2 : (t.pairs.length : Int) <= i := by omega
   rw [hF]
   repeat' first | refine St.go ?_ | ((with_reducible refine cn ?_ ?_) <;> intro h <;> (try simp [h1, n2] at h) <;> try omega) | (refine Ru.go ?_; intro K hK; simp [go_sem, encTab, encG, encI, h1, n2]; (try simp (disch := omega) only [wx, z_i]); (first | apply hK | refine ⟨ob, ?_⟩ | refine ⟨hK _ ?_, fun h => ?_⟩ | refine ⟨?_, ?_⟩); all_goals ((try apply hK); clear hK K))
   simp [go_sem]
theorem f23 (t : Tab) (i : Int) (a : Inter) (ho : t.old.edges.length <= 1000000) (hn : t.new.edges.length <= 1000000) (hp : t.pairs.length <= 1000000) (hlab : ∀ x ∈ t.old.edges, 0 <= x.act.label /\ x.act.label < t.labels.length) :
  Impl Tryz.prog 23 [.ag (encTab t), .one (.int .i64 i), .ag (encI a)] (.tup [.one (.int .i64 (afterR t i a).1), .one (.bool (afterR t i a).2)]) := by
 have j1 : ∀ s, ∀ x ∈ t.old.edges, Impl Tryz.prog 53 [.ag (encTab t), .one (.int .i64 s), .ag (encEd x)] (.one (.one (.int .i64 (folB t s x)))) := fun s x hx => f53 t s x hn (hlab x hx).1 (hlab x hx).2
 have j2 : ∀ q : Int × Int, Impl Tryz.prog 54 [.one (.sl (t.pairs.map encEq)), .ag (encEq q)] (.one (.one (.int .i64 (placeB t q)))) := fun q => f54 t.pairs q hp
 simp only [encTab, encG, encEd, encEq, List.cons_append, List.nil_append] at j1
 simp only [encEq] at j2
 refine impl_w Tryz.func23 z23 Tryz.ntmps23 (by simp) ?_
 simp only [slotsOf]
 conv => arg 2; reduce
 by_cases h1 : i < 0
 ·have hF : afterR t i a = (0, false) := by
   have : ¬ 0 <= i := by omega
   simp [afterR, afterP, this]
  rw [hF]
  repeat' first | refine St.go ?_ | ((with_reducible refine cn ?_ ?_) <;> intro h <;> (try simp [h1] at h) <;> try omega) | (refine Ru.go ?_; intro K hK; simp [go_sem, encTab, encG, encI, h1]; (try simp (disch := omega) only [wx, z_i]); (first | apply hK | refine ⟨ob, ?_⟩ | refine ⟨hK _ ?_, fun h => ?_⟩ | refine ⟨?_, ?_⟩); all_goals ((try apply hK); clear hK K))
  simp [go_sem]
 ·have h1' : 0 <= i := by omega
  by_cases h2 : i < t.pairs.length
  ·have hl : i.toNat < t.pairs.length := by omega
   obtain ⟨⟨p1, p2⟩, hpi⟩ : ∃ p, t.pairs[i.toNat] = p := ⟨_, rfl⟩
   have hA : afterP t i a = (t.old.edges.find? (atE p1 a)).map fun x => placeB t (x.to, folB t p2 x) := by
    unfold afterP
    rw [if_pos h1', List.getElem?_eq_getElem hl, hpi]
   have n2 : ¬ (t.pairs.length : Int) <= i := by omega
   repeat' first | refine St.go ?_ | ((with_reducible refine cn ?_ ?_) <;> intro h <;> (try simp [h1, n2, hl, hpi] at h) <;> try omega) | (refine Ru.go ?_; intro K hK; simp [go_sem, encTab, encG, encI, encEq, h1, n2, hl, hpi]; (try simp (disch := omega) only [wx, z_i]); (first | apply hK | refine ⟨ob, ?_⟩ | refine ⟨hK _ ?_, fun h => ?_⟩ | refine ⟨?_, ?_⟩); all_goals ((try apply hK); clear hK K))
   refine z_k (fun n e => ∃ k : Nat, k + n = t.old.edges.length /\ (t.old.edges.take k).any (atE p1 a) = false /\ e = [(9, .sv (.one (.int .i64 k))), (8, .sv (.one (.bx (encEq (p1, p2))))), (5, .sv (.one (.bx (encI a)))), (3, .sv (.one (.bx (encTab t))))]) t.old.edges.length _ ⟨0, by simp, by simp, rfl⟩ (by simp [go_sem, encTab, encG, encEq, encI]) ?_
   rintro n e ⟨k, hk, h0, rfl⟩
   by_cases hlt : k < t.old.edges.length
   ·obtain ⟨x, hx⟩ : ∃ x, t.old.edges[k] = x := ⟨_, rfl⟩
    have k1 := j1 p2 x (hx ▸ List.getElem_mem hlt)
    have k2 := j2 (x.to, folB t p2 x)
    obtain ⟨v, hv⟩ : ∃ v, folB t p2 x = v := ⟨_, rfl⟩
    obtain ⟨w, hw⟩ : ∃ w, placeB t (x.to, v) = w := ⟨_, rfl⟩
    rw [hv] at k1 k2
    simp only [hw] at k2
    cases c1 : atE p1 a x with
    | true =>
      have hf := find_at (p := atE p1 a) hlt h0 (by rw [hx]; exact c1)
      rw [hx] at hf
      have hR : afterR t i a = (max 0 w, true) := by
       unfold afterR
       rw [hA, hf]
       simp [hv, hw]
      simp only [atE, actEq, Bool.and_eq_true, beq_iff_eq] at c1
      obtain ⟨u1, ⟨u2, u3⟩, u4⟩ := c1
      rw [hR]
      rw [u1, u2, u3, u4] at k1
      have q_ := aN hlt <| aN hx <| aN u1 <| aN u2 <| aN u3 <| u4
      repeat' first | refine St.go ?_ | ((with_reducible refine cn ?_ ?_) <;> intro h <;> (try simp [q_] at h) <;> try omega) | (refine Ru.go ?_; intro K hK; simp [go_sem, encTab, encG, encEq, encEd, encI, q_]; (try simp (disch := omega) only [wx, z_i]); (first | apply hK | ((try refine .inl ?_); refine ⟨_, by (repeat' first | exact k1 | exact k2 | refine And.intro ?_ ?_ | simp [go_sem, encTab, encG, encEq, encEd, encI, q_]); first | done | omega, ?_⟩; first | apply hK | (refine ⟨by simp [go_sem, encTab, encG, encEq, encEd, encI, q_], ?_⟩; first | apply hK | refine ⟨by simp [go_sem, encTab, encG, encEq, encEd, encI, q_], hK _ _ ?_⟩)) | refine ⟨ob, ?_⟩ | refine ⟨hK _ ?_, fun h => ?_⟩ | refine ⟨?_, ?_⟩); all_goals ((try apply hK); clear hK K))
      all_goals try clear q_
      simp [go_sem]
    | false =>
      have c2 : (x.from_ == p1 && (x.act.from_ == a.from_ && (x.act.to == a.to && x.act.label == a.label))) = false := by
       rw [<- c1]
       simp only [atE, actEq, Bool.and_assoc]
      have q_ := aN hlt <| aN hx <| c2
      repeat' first | refine St.go ?_ | ((with_reducible refine cn ?_ ?_) <;> intro h <;> (try simp [q_] at h) <;> try omega) | (refine Ru.go ?_; intro K hK; simp [go_sem, encTab, encG, encEq, encEd, encI, q_]; (try simp (disch := omega) only [wx, z_i]); (first | apply hK | ((try refine .inl ?_); refine ⟨_, by (repeat' first | exact k1 | exact k2 | refine And.intro ?_ ?_ | simp [go_sem, encTab, encG, encEq, encEd, encI, q_]); first | done | omega, ?_⟩; first | apply hK | (refine ⟨by simp [go_sem, encTab, encG, encEq, encEd, encI, q_], ?_⟩; first | apply hK | refine ⟨by simp [go_sem, encTab, encG, encEq, encEd, encI, q_], hK _ _ ?_⟩)) | refine ⟨ob, ?_⟩ | refine ⟨hK _ ?_, fun h => ?_⟩ | refine ⟨?_, ?_⟩); all_goals ((try apply hK); clear hK K))
      all_goals try clear q_
      refine z_j (n - 1) _ (by omega) ⟨k + 1, by omega, ?_, rfl⟩ ?_
      ·rw [any_succ hlt, h0, hx, c1]; rfl
      ·simp [go_sem, encTab, encG, encEq, encI]
   ·have hkl : t.old.edges.take k = t.old.edges := List.take_of_length_le (by omega)
    rw [hkl] at h0
    have hf := find_none h0
    have hR : afterR t i a = (0, false) := by
     unfold afterR
     rw [hA, hf]
     rfl
    rw [hR]
    repeat' first | refine St.go ?_ | ((with_reducible refine cn ?_ ?_) <;> intro h <;> (try simp [hlt] at h) <;> try omega) | (refine Ru.go ?_; intro K hK; simp [go_sem, hlt, encTab, encG]; (try simp (disch := omega) only [wx, z_i]); (first | apply hK | refine ⟨ob, ?_⟩ | refine ⟨hK _ ?_, fun h => ?_⟩ | refine ⟨?_, ?_⟩); all_goals ((try apply hK); clear hK K))
    simp [go_sem]
  ·have hF : afterR t i a = (0, false) := by
    have : t.pairs[i.toNat]? = none := List.getElem?_eq_none (by omega)
    simp [afterR, afterP, this]
   have n2 : (t.pairs.length : Int) <= i := by omega
   rw [hF]
   repeat' first | refine St.go ?_ | ((with_reducible refine cn ?_ ?_) <;> intro h <;> (try simp [h1, n2] at h) <;> try omega) | (refine Ru.go ?_; intro K hK; simp [go_sem, encTab, encG, encI, h1, n2]; (try simp (disch := omega) only [wx, z_i]); (first | apply hK | refine ⟨ob, ?_⟩ | refine ⟨hK _ ?_, fun h => ?_⟩ | refine ⟨?_, ?_⟩); all_goals ((try apply hK); clear hK K))
   simp [go_sem]
deriving instance DecidableEq for Dcl
theorem f21 (t : Tab) : Impl Tryz.prog 21 [.ag (encTab t)] (.one (.ag (encTab t))) := by
 refine impl_w Tryz.func21 z21 Tryz.ntmps21 (by simp) ?_
 simp only [slotsOf]
 conv => arg 2; reduce
 repeat' first | refine St.go ?_ | (refine Ru.go ?_; intro K hK; simp [go_sem, encTab, encG]; (first | apply hK | refine ⟨ob, ?_⟩ | refine ⟨hK _ ?_, fun h => ?_⟩ | refine ⟨?_, ?_⟩); all_goals ((try apply hK); clear hK K))
 simp [go_sem, encTab, encG]
def few31 (g : Glob) : Bool := fewG g && (decide (g.states <= 15) && decide ((allF g.decls).length <= 24))
theorem few_flds {g : Glob} (h : fewG g = true) : g.decls.length <= 60 /\ ∀ d ∈ g.decls, d.fields.length <= 100 /\ d.diffs.length <= 100 /\ d.equals.length <= 100 := by
 simp only [fewG, fewD, Bool.and_eq_true, decide_eq_true_eq] at h
 obtain ⟨_, h1, h2⟩ := h
 refine ⟨h1, fun d hd => ?_⟩
 obtain ⟨k, hk, he⟩ := List.mem_iff_getElem.1 hd
 have h3 := units_succ hk
 rw [he] at h3
 have h4 : units g.decls (k + 1) <= units g.decls g.decls.length := by
  have : ∀ n, k + 1 + n <= g.decls.length -> units g.decls (k + 1) <= units g.decls (k + 1 + n) := by
   intro n
   induction n with
   | zero => intro _; exact Nat.le_refl _
   | succ n ih =>
     intro hn
     have a1 := ih (by omega)
     have a2 := units_succ (l := g.decls) (k := k + 1 + n) (by omega)
     rw [<- Nat.add_assoc] 
     omega
  have h5 := this (g.decls.length - (k + 1)) (by omega)
  rwa [show k + 1 + (g.decls.length - (k + 1)) = g.decls.length by omega] at h5
 omega
theorem f17 (g : Glob) (hl : g.decls.length <= 1000000000000000) (hp : ∀ d ∈ g.decls, d.fields.length <= 1000000000000000 /\ d.diffs.length <= 1000000000000000 /\ d.equals.length <= 1000000000000000) : Impl Tryz.prog 17 [.ag (encG g)] (.one (.one (.bool (few31 g)))) := by
 have k1 := f10 g hl hp
 simp only [encG] at k1
 refine impl_w Tryz.func17 z17 Tryz.ntmps17 (by simp) ?_
 simp only [slotsOf]
 conv => arg 2; reduce
 cases hf : fewG g with
 | false =>
   have hF : few31 g = false := by simp [few31, hf]
   rw [hF]
   rw [hf] at k1
   repeat' first | refine St.go ?_ | (refine Ru.go ?_; intro K hK; simp [go_sem, encG]; (first | apply hK | ((try refine .inl ?_); refine ⟨_, by (try intro hc); (repeat' first | exact k1 | exact hc | refine And.intro ?_ ?_ | simp [go_sem, encG]); first | done | omega, ?_⟩; first | apply hK | (refine ⟨by simp [go_sem, encG], ?_⟩; apply hK)) | refine ⟨.one (.one (.bool false)), by simp [go_sem, encG], hK _ _ ?_⟩ | refine ⟨ob, ?_⟩ | refine ⟨hK _ ?_, fun h => ?_⟩ | refine ⟨?_, ?_⟩); all_goals ((try apply hK); clear hK K))
   simp [go_sem]
 | true =>
   obtain ⟨q1, q2⟩ := few_flds hf
   have k2 := f41 g.decls (by omega) fun d hd => by have := (q2 d hd).1; omega
   rw [hf] at k1
   obtain ⟨n, hn⟩ : ∃ n, (allF g.decls).length = n := ⟨_, rfl⟩
   have hF : few31 g = (decide (g.states <= 15) && decide ((n : Int) <= 24)) := by
    simp only [few31, hf, hn, Bool.true_and]
    congr 1
    rw [Bool.eq_iff_iff]
    simp
    omega
   rw [hF]
   rw [hn] at k2
   clear hF hn
   by_cases h1 : g.states <= 15
   ·skip
    repeat' first | refine St.go ?_ | (refine Ru.go ?_; intro K hK; simp [go_sem, encG, h1]; (first | apply hK | ((try refine .inl ?_); refine ⟨_, by (try intro hc); (repeat' first | exact k1 | exact k2 | exact hc | refine And.intro ?_ ?_ | simp [go_sem, encG, h1]); first | done | omega, ?_⟩; first | apply hK | (refine ⟨by simp [go_sem, encG, h1], ?_⟩; apply hK)) | refine ⟨.one (.one (.bool false)), by simp [go_sem, encG, h1], hK _ _ ?_⟩ | refine ⟨ob, ?_⟩ | refine ⟨hK _ ?_, fun h => ?_⟩ | refine ⟨?_, ?_⟩); all_goals ((try apply hK); clear hK K))
    simp [go_sem, h1]
   ·skip
    repeat' first | refine St.go ?_ | (refine Ru.go ?_; intro K hK; simp [go_sem, encG, h1]; (first | apply hK | ((try refine .inl ?_); refine ⟨_, by (try intro hc); (repeat' first | exact k1 | exact k2 | exact hc | refine And.intro ?_ ?_ | simp [go_sem, encG, h1]); first | done | omega, ?_⟩; first | apply hK | (refine ⟨by simp [go_sem, encG, h1], ?_⟩; apply hK)) | refine ⟨.one (.one (.bool false)), by simp [go_sem, encG, h1], hK _ _ ?_⟩ | refine ⟨ob, ?_⟩ | refine ⟨hK _ ?_, fun h => ?_⟩ | refine ⟨?_, ?_⟩); all_goals ((try apply hK); clear hK K))
    simp [go_sem, h1]
deriving instance DecidableEq for Glob
deriving instance DecidableEq for Tab
def MedG (g : Glob) : Prop := g.decls.length <= 1000000 /\ (∀ d ∈ g.decls, d.fields.length <= 1000000 /\ d.diffs.length <= 1000000 /\ d.equals.length <= 1000000) /\ g.roles.length <= 1000000 /\ g.edges.length <= 1000000 /\ g.timeouts.length <= 1000000
theorem frz_encD (x : Dcl) : frzL (encD x) = encD x := by simp [encD, frzL, DV.frz]
def isOw : DV -> Bool
 | .ow _ _ => true
 | .bx _ => true
 | _ => false
theorem hasOw_cons (x : DV) (l : List DV) : hasOw (x :: l) = (isOw x || hasOw l) := by
 cases x <;> simp [hasOw, isOw]
theorem f43 (g : Glob) (h : MedG g) : Impl Tryz.prog 43 [.ag (encG g)] (.one (.ag (encG g))) := by
 obtain ⟨hd, hd2, hr, he, ht⟩ := h
 have k1 := f80 g.roles hr
 have k2 := f81 g.edges he
 have k3 := f82 g.timeouts ht
 refine impl_w Tryz.func43 z43 Tryz.ntmps43 (by simp) ?_
 simp only [slotsOf]
 conv => arg 2; reduce
 repeat' first | refine St.go ?_ | ((with_reducible refine cn ?_ ?_) <;> intro h <;> (try simp at h) <;> try omega) | (refine Ru.go ?_; intro K hK; simp [go_sem, encG]; (try simp (disch := omega) only [wx, z_i]); (first | apply hK | ((try refine .inl ?_); refine ⟨_, by (repeat' first | exact k1 | exact k2 | exact k3 | refine And.intro ?_ ?_ | simp [go_sem, encG]); first | done | omega, ?_⟩; first | apply hK | (refine ⟨by simp [go_sem, encG], ?_⟩; first | apply hK | refine ⟨by simp [go_sem, encG], hK _ _ ?_⟩)) | refine ⟨by first | omega | (simp [z_f, z_g, encG]; first | done | omega), ?_⟩ | refine ⟨hK _ ?_, fun h => ?_⟩ | refine ⟨?_, ?_⟩); all_goals ((try apply hK); clear hK K))
 refine z_k (fun n e => ∃ (k : Nat) (D : DV), k + n = g.decls.length /\ ((k = 0 /\ D = .nil) \/ (0 < k /\ D = .ow 5 ((g.decls.take k).map encD))) /\ e = [(23, .sv (.one (.int .i64 k))), (22, .sv (.one (.int .i64 g.decls.length))), (21, .sv (.one (.sl (g.decls.map encD)))), (3, .sv (.one (.bx [.str g.name, .sl (g.roles.map encS), D, .int .i64 g.states, .int .i64 g.start, .int .i64 g.end_, .sl (g.edges.map encEd), .sl (g.timeouts.map encT)]))), (2, .sv (.one (.bx [.str ⟨#[]⟩, .nil, .nil, .int .i64 0, .int .i64 0, .int .i64 0, .nil, .nil])))]) g.decls.length _ ⟨0, .nil, by simp, .inl ⟨rfl, rfl⟩, rfl⟩ (by simp [go_sem]) ?_
 rintro n e ⟨k, D, hk, hD, rfl⟩
 by_cases hlt : k < g.decls.length
 ·obtain ⟨d, hdk⟩ : ∃ d, g.decls[k] = d := ⟨_, rfl⟩
  obtain ⟨q1, q2, q3⟩ := hd2 d (hdk ▸ List.getElem_mem hlt)
  have j1 := f83 d.fields q1
  have j2 := f84 d.diffs q2
  have j3 := f85 d.equals q3
  have hap : ∀ l : List Dcl, l.length <= 1000000 -> z_f 5 96 (l.map encD) [encD d] := by
   intro l hl
   refine ⟨?_, ?_, by omega, ?_, ?_⟩
   ·intro e he; rw [List.mem_singleton.1 he]; rfl
   ·intro e he; rw [List.mem_singleton.1 he]; rfl
   ·simp only [List.length_map, List.length_singleton, maxLen]; omega
   ·simp only [List.length_map, List.length_singleton]; omega
  have hap0 := hap [] (by simp)
  have hap1 := hap (g.decls.take k) (by simp; omega)
  have hz : encD d = [.str d.name, .sl (d.fields.map encF), .int .i64 d.first, .sl (d.diffs.map encDf), .sl (d.equals.map encEq)] := rfl
  rw [hz] at hap0 hap1
  rw [List.map_take] at hap1
  simp only [List.map_nil] at hap0
  have hsucc : (g.decls.take (k + 1)).map encD = (g.decls.take k).map encD ++ [encD d] := by
   rw [List.take_succ_eq_append_getElem hlt, hdk, List.map_append]; rfl
  rcases hD with ⟨hk0, rfl⟩ | ⟨hk0, rfl⟩
  ·skip
   have q_ := aN hlt <| aN hdk <| hap0
   repeat' first | refine St.go ?_ | ((with_reducible refine cn ?_ ?_) <;> intro h <;> (try simp [q_] at h) <;> try omega) | (refine Ru.go ?_; intro K hK; simp [go_sem, encD, q_]; (try simp (disch := omega) only [wx, z_i]); (first | apply hK | ((try refine .inl ?_); refine ⟨_, by (repeat' first | exact j1 | exact j2 | exact j3 | refine And.intro ?_ ?_ | simp [go_sem, encD, q_]); first | done | omega, ?_⟩; first | apply hK | (refine ⟨by simp [go_sem, encD, q_], ?_⟩; first | apply hK | refine ⟨by simp [go_sem, encD, q_], hK _ _ ?_⟩)) | refine ⟨by first | omega | (simp [z_f, z_g, encD, q_]; first | done | omega), ?_⟩ | refine ⟨hK _ ?_, fun h => ?_⟩ | refine ⟨?_, ?_⟩); all_goals ((try apply hK); clear hK K))
   all_goals try clear q_
   subst hk0
   refine z_j (n - 1) _ (by omega) ⟨1, _, by omega, .inr ⟨by omega, rfl⟩, rfl⟩ ?_
   simp [go_sem, hsucc, encD]
  ·skip
   have q_ := aN hlt <| aN hdk <| hap1
   repeat' first | refine St.go ?_ | ((with_reducible refine cn ?_ ?_) <;> intro h <;> (try simp [q_] at h) <;> try omega) | (refine Ru.go ?_; intro K hK; simp [go_sem, encD, q_]; (try simp (disch := omega) only [wx, z_i]); (first | apply hK | ((try refine .inl ?_); refine ⟨_, by (repeat' first | exact j1 | exact j2 | exact j3 | refine And.intro ?_ ?_ | simp [go_sem, encD, q_]); first | done | omega, ?_⟩; first | apply hK | (refine ⟨by simp [go_sem, encD, q_], ?_⟩; first | apply hK | refine ⟨by simp [go_sem, encD, q_], hK _ _ ?_⟩)) | refine ⟨by first | omega | (simp [z_f, z_g, encD, q_]; first | done | omega), ?_⟩ | refine ⟨hK _ ?_, fun h => ?_⟩ | refine ⟨?_, ?_⟩); all_goals ((try apply hK); clear hK K))
   all_goals try clear q_
   refine z_j (n - 1) _ (by omega) ⟨k + 1, _, by omega, .inr ⟨by omega, rfl⟩, rfl⟩ ?_
   simp [go_sem, hsucc, encD]
 ·have hkl : g.decls.take k = g.decls := List.take_of_length_le (by omega)
  rw [hkl] at hD
  rcases hD with ⟨hk0, rfl⟩ | ⟨hk0, rfl⟩
  ·have hnil : g.decls = [] := List.eq_nil_of_length_eq_zero (by omega)
   repeat' first | refine St.go ?_ | ((with_reducible refine cn ?_ ?_) <;> intro h <;> (try simp [hlt] at h) <;> try omega) | (refine Ru.go ?_; intro K hK; simp [go_sem, hlt, hasOw_cons, isOw, Bool.or_true, Bool.true_or, Bool.or_false]; (try simp (disch := omega) only [wx, z_i]); (first | apply hK | refine ⟨by first | omega | (simp [z_f, z_g, hlt, hasOw_cons, isOw, Bool.or_true, Bool.true_or, Bool.or_false, DV.flat]; first | done | omega), ?_⟩ | refine ⟨hK _ ?_, fun h => ?_⟩ | refine ⟨?_, ?_⟩); all_goals ((try apply hK); clear hK K))
   simp [go_sem, encG, hnil]
  ·skip
   repeat' first | refine St.go ?_ | ((with_reducible refine cn ?_ ?_) <;> intro h <;> (try simp [hlt] at h) <;> try omega) | (refine Ru.go ?_; intro K hK; simp [go_sem, hlt, hasOw_cons, isOw, Bool.or_true, Bool.true_or]; (try simp (disch := omega) only [wx, z_i]); (first | apply hK | refine ⟨by first | omega | (simp [z_f, z_g, hlt, hasOw_cons, isOw, Bool.or_true, Bool.true_or, DV.flat]; first | done | omega), ?_⟩ | refine ⟨hK _ ?_, fun h => ?_⟩ | refine ⟨?_, ?_⟩); all_goals ((try apply hK); clear hK K))
   simp [go_sem, encG, frz_encD]
theorem und61 : Tryz.prog.underlying 61 = some (.array 2 3) := by kernel_rfl
theorem und3 : Tryz.prog.underlying 3 = some (.int .i64) := by kernel_rfl
theorem size3 : sizeT Tryz.prog 3 = some 1 := by kernel_rfl
theorem kind3 : kindT Tryz.prog 3 = some false := by kernel_rfl
theorem key61 (a b : Int) : KeyT Tryz.prog 61 [.ki .i64 a, .ki .i64 b] := by
 intro em w
 have h1 : ∀ (n : Nat) (x : Int), (Instr.checkKey em (n + 1) 3 (.int .i64 x)).run Tryz.prog w = .ok () w := by
  intro n x
  simp [Instr.checkKey, run_underlying und3]
 show (Instr.checkKey em (9998 + 1 + 1) 61 _).run Tryz.prog w = _
 rw [Instr.checkKey]
 simp only [KV.key, List.map_cons, List.map_nil, KV.val, Sem.run_bind, run_underlying und61, Result.andThen_ok, Std.Legacy.Range.forIn_eq_forIn_range', Std.Legacy.Range.size, Nat.sub_zero, Nat.add_sub_cancel, Nat.div_one, List.range'_succ, List.range'_zero, List.forIn_cons, List.forIn_nil, run_sizeOf size3, part, run_isAgg kind3, Bool.false_eq_true, if_false]
 simp [h1]
end Go.Av
