/- Part of a proof. -/
import Derived.Test.YtpdfolkoejbbgaaGreatDoorWB03
import Derived.Test.YtpdfolkoejbbgaaGreatDoorWB05
import Derived.Test.YtpdfolkoejbbgaaGreatDoorWC0
import Derived.Test.YtpdfolkoejbbgaaGreatDoorWB01
set_option linter.unusedVariables false
set_option linter.unusedSimpArgs false
set_option maxHeartbeats 64000000
set_option maxRecDepth 8000
namespace Go.Av
open Go Go.RowKit Go.Proofs
def anyNeg (l : List Int) : Bool := l.any fun y => (-1 : Int) == y
def valid29 (g : Glob) : Bool := named g && numbered g && validD g.decls && orderedB g true && timedP g && !anyNeg (spread g g.start.toNat false) && !anyNeg (spread g g.end_.toNat true)
theorem sprN_len {back : Bool} {es : List Edg} {N : Nat} (hb : ∀ x ∈ es, eB back x < N) : ∀ (n : Nat) {st : List Int × List Nat}, (∃ m, SprOk N m st /\ st.2.length <= m) -> (sprN back es n st).1.length = N
 | 0, st, ⟨m, h, _⟩ => h.len
 | n + 1, st, ⟨m, h, hm⟩ => by
   rw [sprN]
   cases h2 : st.2 with
   | nil =>
     have : sprRound back es st = st := by unfold sprRound; rw [h2]
     rw [this]
     exact sprN_len hb n ⟨m, h, hm⟩
   | cons a t =>
     rw [h2] at hm
     obtain ⟨m', rfl⟩ : ∃ m', m = m' + 1 := ⟨m - 1, by simp only [List.length_cons] at hm; omega⟩
     have hr := sprRound_ok hb h h2
     exact sprN_len hb n ⟨m', hr, by have := hr.cnt; omega⟩
theorem spread_len (g : Glob) (hn : numbered g = true) (s : Nat) (hs : s < g.states.toNat) (back : Bool) : (spread g s back).length = g.states.toNat := by
 obtain ⟨n1, n2, n3, n4, n5, n6, n7⟩ := numbered_facts hn
 unfold spread
 refine sprN_len (fun x hx => ?_) _ ⟨_, spr_start hs, ?_⟩
 ·have := okEdge_facts (n7 x hx)
  unfold eB
  split <;> omega
 ·simp; omega
abbrev H109 : Prop := ∀ n : Nat, n <= 200 -> Impl Tryz.prog 109 [.one (.sl [[.int .i64 (-1)]]), .one (.int .i64 n)] (.one (.one (.ow 1 ((List.replicate n (-1)).map encN))))
theorem f29 (h109 : H109) (g : Glob) (hs : Small g) : Impl Tryz.prog 29 [.ag (encG g)] (.one (.one (.bool (valid29 g)))) := by
 have c1 := f67 g (by have := hs.roles; omega)
 have c2 := f68 g hs
 have c3 := f69 g.decls (by have := hs.decls; omega) hs.fields
 have c4 := f70 g hs
 have c5 := f71 g hs
 have c6 : numbered g = true -> Impl Tryz.prog 73 [.ag (encG g), .one (.int .i64 g.start), .one (.bool false)] (.one (.one (.ow 1 ((spread g g.start.toNat false).map encN)))) /\ Impl Tryz.prog 73 [.ag (encG g), .one (.int .i64 g.end_), .one (.bool true)] (.one (.one (.ow 1 ((spread g g.end_.toNat true).map encN)))) /\ (spread g g.start.toNat false).length <= 1000000 /\ (spread g g.end_.toNat true).length <= 1000000 := by
  intro hn
  obtain ⟨n1, n2, n3, n4, n5, n6, n7⟩ := numbered_facts hn
  have e1 := f73 g hs hn h109 g.start.toNat (by omega) false
  have e2 := f73 g hs hn h109 g.end_.toNat (by omega) true
  rw [Int.toNat_of_nonneg n3] at e1
  rw [Int.toNat_of_nonneg n5] at e2
  exact ⟨e1, e2, by rw [spread_len g hn _ (by omega)]; omega, by rw [spread_len g hn _ (by omega)]; omega⟩
 refine impl_w Tryz.func29 z29 Tryz.ntmps29 (by simp) ?_
 simp only [slotsOf]
 conv => arg 2; reduce
 have hv : valid29 g = (named g && numbered g && validD g.decls && orderedB g true && timedP g && !anyNeg (spread g g.start.toNat false) && !anyNeg (spread g g.end_.toNat true)) := rfl
 obtain ⟨V, hV⟩ : ∃ V, valid29 g = V := ⟨_, rfl⟩
 rw [hV] at hv ⊢
 simp only [encG] at c1 c2 c3 c4 c5 c6
 cases h1 : named g with
 | false =>
   rw [h1] at c1 hv
   repeat' first | refine St.go ?_ | (refine Ru.go ?_; intro K hK; simp [go_sem, encG]; (first | apply hK | ((try refine .inl ?_); refine ⟨_, by (try intro hc); (repeat' first | exact c1 | exact hc | refine And.intro ?_ ?_ | simp [go_sem, encG]); first | done | omega, ?_⟩; first | apply hK | (refine ⟨by simp [go_sem, encG], ?_⟩; apply hK)) | refine ⟨.one (.one (.bool false)), by simp [go_sem, encG], hK _ _ ?_⟩ | refine ⟨ob, ?_⟩ | refine ⟨hK _ ?_, fun h => ?_⟩ | refine ⟨?_, ?_⟩); all_goals ((try apply hK); clear hK K))
   simp [go_sem, hv]
 | true =>
   rw [h1] at c1 hv
   cases h2 : numbered g with
   | false =>
     rw [h2] at c2 hv
     repeat' first | refine St.go ?_ | (refine Ru.go ?_; intro K hK; simp [go_sem, encG]; (first | apply hK | ((try refine .inl ?_); refine ⟨_, by (try intro hc); (repeat' first | exact c1 | exact c2 | exact hc | refine And.intro ?_ ?_ | simp [go_sem, encG]); first | done | omega, ?_⟩; first | apply hK | (refine ⟨by simp [go_sem, encG], ?_⟩; apply hK)) | refine ⟨.one (.one (.bool false)), by simp [go_sem, encG], hK _ _ ?_⟩ | refine ⟨ob, ?_⟩ | refine ⟨hK _ ?_, fun h => ?_⟩ | refine ⟨?_, ?_⟩); all_goals ((try apply hK); clear hK K))
     simp [go_sem, hv]
   | true =>
     obtain ⟨c6a, c7, l1, l2⟩ := c6 h2
     clear c6
     rw [h2] at c2 hv
     cases h3 : validD g.decls with
     | false =>
       rw [h3] at c3 hv
       repeat' first | refine St.go ?_ | (refine Ru.go ?_; intro K hK; simp [go_sem, encG]; (first | apply hK | ((try refine .inl ?_); refine ⟨_, by (try intro hc); (repeat' first | exact c1 | exact c2 | exact c3 | exact hc | refine And.intro ?_ ?_ | simp [go_sem, encG]); first | done | omega, ?_⟩; first | apply hK | (refine ⟨by simp [go_sem, encG], ?_⟩; apply hK)) | refine ⟨.one (.one (.bool false)), by simp [go_sem, encG], hK _ _ ?_⟩ | refine ⟨ob, ?_⟩ | refine ⟨hK _ ?_, fun h => ?_⟩ | refine ⟨?_, ?_⟩); all_goals ((try apply hK); clear hK K))
       simp [go_sem, hv]
     | true =>
       rw [h3] at c3 hv
       cases h4 : orderedB g true with
       | false =>
         rw [h4] at c4 hv
         repeat' first | refine St.go ?_ | (refine Ru.go ?_; intro K hK; simp [go_sem, encG]; (first | apply hK | ((try refine .inl ?_); refine ⟨_, by (try intro hc); (repeat' first | exact c1 | exact c2 | exact c3 | exact c4 | exact hc | refine And.intro ?_ ?_ | simp [go_sem, encG]); first | done | omega, ?_⟩; first | apply hK | (refine ⟨by simp [go_sem, encG], ?_⟩; apply hK)) | refine ⟨.one (.one (.bool false)), by simp [go_sem, encG], hK _ _ ?_⟩ | refine ⟨ob, ?_⟩ | refine ⟨hK _ ?_, fun h => ?_⟩ | refine ⟨?_, ?_⟩); all_goals ((try apply hK); clear hK K))
         simp [go_sem, hv]
       | true =>
         rw [h4] at c4 hv
         cases h5 : timedP g with
         | false =>
           rw [h5] at c5 hv
           repeat' first | refine St.go ?_ | (refine Ru.go ?_; intro K hK; simp [go_sem, encG]; (first | apply hK | ((try refine .inl ?_); refine ⟨_, by (try intro hc); (repeat' first | exact c1 | exact c2 | exact c3 | exact c4 | exact c5 | exact hc | refine And.intro ?_ ?_ | simp [go_sem, encG]); first | done | omega, ?_⟩; first | apply hK | (refine ⟨by simp [go_sem, encG], ?_⟩; apply hK)) | refine ⟨.one (.one (.bool false)), by simp [go_sem, encG], hK _ _ ?_⟩ | refine ⟨ob, ?_⟩ | refine ⟨hK _ ?_, fun h => ?_⟩ | refine ⟨?_, ?_⟩); all_goals ((try apply hK); clear hK K))
           simp [go_sem, hv]
         | true =>
           rw [h5] at c5 hv
           have c8 := f72 (spread g g.start.toNat false) (-1) l1
           have c9 := f72 (spread g g.end_.toNat true) (-1) l2
           change Impl Tryz.prog 72 [_, _] (.one (.one (.bool (anyNeg _)))) at c8
           change Impl Tryz.prog 72 [_, _] (.one (.one (.bool (anyNeg _)))) at c9
           generalize spread g g.start.toNat false = A at *
           generalize spread g g.end_.toNat true = B at *
           cases h6 : anyNeg A with
           | true =>
             rw [h6] at c8 hv
             repeat' first | refine St.go ?_ | (refine Ru.go ?_; intro K hK; simp [go_sem, encG]; (first | apply hK | ((try refine .inl ?_); refine ⟨_, by (try intro hc); (repeat' first | exact c1 | exact c2 | exact c3 | exact c4 | exact c5 | exact c6a | exact c8 | exact hc | refine And.intro ?_ ?_ | simp [go_sem, encG]); first | done | omega, ?_⟩; first | apply hK | (refine ⟨by simp [go_sem, encG], ?_⟩; apply hK)) | refine ⟨.one (.one (.bool false)), by simp [go_sem, encG], hK _ _ ?_⟩ | refine ⟨ob, ?_⟩ | refine ⟨hK _ ?_, fun h => ?_⟩ | refine ⟨?_, ?_⟩); all_goals ((try apply hK); clear hK K))
             simp [go_sem, hv]
           | false =>
             rw [h6] at c8 hv
             repeat' first | refine St.go ?_ | (refine Ru.go ?_; intro K hK; simp [go_sem, encG]; (first | apply hK | ((try refine .inl ?_); refine ⟨_, by (try intro hc); (repeat' first | exact c1 | exact c2 | exact c3 | exact c4 | exact c5 | exact c6a | exact c8 | exact c7 | exact c9 | exact hc | refine And.intro ?_ ?_ | simp [go_sem, encG]); first | done | omega, ?_⟩; first | apply hK | (refine ⟨by simp [go_sem, encG], ?_⟩; apply hK)) | refine ⟨.one (.one (.bool false)), by simp [go_sem, encG], hK _ _ ?_⟩ | refine ⟨ob, ?_⟩ | refine ⟨hK _ ?_, fun h => ?_⟩ | refine ⟨?_, ?_⟩); all_goals ((try apply hK); clear hK K))
             simp [go_sem, hv]
def units (l : List Dcl) (k : Nat) : Nat := ((l.take k).map fun d => d.fields.length + (d.diffs.length + d.equals.length)).sum
def fewD (l : List Dcl) : Bool := decide (l.length <= 60) && decide (units l l.length <= 100)
theorem units_succ {l : List Dcl} {k : Nat} (h : k < l.length) : units l (k + 1) = units l k + (l[k].fields.length + (l[k].diffs.length + l[k].equals.length)) := by
 unfold units
 rw [List.take_succ_eq_append_getElem h, List.map_append, List.sum_append]
 simp
theorem units_le {l : List Dcl} {M : Nat} (h : ∀ d ∈ l, d.fields.length <= M /\ d.diffs.length <= M /\ d.equals.length <= M) : ∀ k, k <= l.length -> units l k <= k * (3 * M)
 | 0, _ => by simp [units]
 | k + 1, hk => by
   have := units_le h k (by omega)
   have hd := h l[k] (List.getElem_mem (by omega))
   rw [units_succ (by omega), Nat.add_mul]
   omega
theorem f38 (l : List Dcl) (hl : l.length <= 1000000000000000) (hp : ∀ d ∈ l, d.fields.length <= 1000000000000000 /\ d.diffs.length <= 1000000000000000 /\ d.equals.length <= 1000000000000000) : Impl Tryz.prog 38 [.one (.sl (l.map encD))] (.one (.one (.bool (fewD l)))) := by
 refine impl_w Tryz.func38 z38 Tryz.ntmps38 (by simp) ?_
 simp only [slotsOf]
 conv => arg 2; reduce
 by_cases h60 : l.length <= 60
 ·have hle := units_le hp
  repeat' first | refine St.go ?_ | ((with_reducible refine cn ?_ ?_) <;> intro h <;> (try simp at h) <;> try omega) | (refine Ru.go ?_; intro K hK; simp [go_sem]; (try simp (disch := omega) only [wx, z_i]); (first | apply hK | refine ⟨ob, ?_⟩ | refine ⟨hK _ ?_, fun h => ?_⟩ | refine ⟨?_, ?_⟩); all_goals ((try apply hK); clear hK K))
  refine z_k (fun n e => ∃ i : Nat, i + n = l.length /\ e = [(4, .sv (.one (.int .i64 i))), (3, .sv (.one (.int .i64 (units l i)))), (0, .sv (.one (.sl (l.map encD))))]) l.length _ ⟨0, by simp, rfl⟩ (by simp [go_sem, units]) ?_
  rintro n e ⟨i, hi, rfl⟩
  have hui := hle i (by omega)
  by_cases hlt : i < l.length
  ·obtain ⟨d, hd⟩ : ∃ d, l[i] = d := ⟨_, rfl⟩
   have hdp := hp l[i] (List.getElem_mem hlt)
   have hsu := units_succ hlt
   rw [hd] at hdp hsu
   obtain ⟨h1, h2, h3⟩ := hdp
   obtain ⟨u, hu⟩ : ∃ u, units l i = u := ⟨_, rfl⟩
   rw [hu] at hui hsu ⊢
   repeat' first | refine St.go ?_ | ((with_reducible refine cn ?_ ?_) <;> intro h <;> (try simp [hlt, hd] at h) <;> try omega) | (refine Ru.go ?_; intro K hK; simp [go_sem, hlt, hd, encD]; (try simp (disch := omega) only [wx, z_i]); (first | apply hK | refine ⟨ob, ?_⟩ | refine ⟨hK _ ?_, fun h => ?_⟩ | refine ⟨?_, ?_⟩); all_goals ((try apply hK); clear hK K))
   refine z_j (n - 1) _ (by omega) ⟨i + 1, by omega, rfl⟩ ?_
   rw [hsu]
   simp [go_sem]
   omega
  ·have hie : i = l.length := by omega
   have hv : fewD l = (decide ((l.length : Int) <= 60) && decide ((units l i : Int) <= 100)) := by
    unfold fewD
    rw [hie, Bool.eq_iff_iff]
    simp
    omega
   obtain ⟨u, hu⟩ : ∃ u, units l i = u := ⟨_, rfl⟩
   rw [hu] at hv ⊢
   have h60' : (l.length : Int) <= 60 := by omega
   repeat' first | refine St.go ?_ | ((with_reducible refine cn ?_ ?_) <;> intro h <;> (try simp [hlt, h60'] at h) <;> try omega) | (refine Ru.go ?_; intro K hK; simp [go_sem, hlt, h60']; (try simp (disch := omega) only [wx, z_i]); (first | apply hK | refine ⟨ob, ?_⟩ | refine ⟨hK _ ?_, fun h => ?_⟩ | refine ⟨?_, ?_⟩); all_goals ((try apply hK); clear hK K))
   simp [go_sem, hv, h60']
 ·have hv : fewD l = false := by
   unfold fewD
   simp [h60]
  have h60' : ¬ (l.length : Int) <= 60 := by omega
  repeat' first | refine St.go ?_ | ((with_reducible refine cn ?_ ?_) <;> intro h <;> (try simp at h) <;> try omega) | (refine Ru.go ?_; intro K hK; simp [go_sem]; (try simp (disch := omega) only [wx, z_i]); (first | apply hK | refine ⟨ob, ?_⟩ | refine ⟨hK _ ?_, fun h => ?_⟩ | refine ⟨?_, ?_⟩); all_goals ((try apply hK); clear hK K))
  refine z_k (fun n e => ∃ (i : Nat) (u : Int), i + n = l.length /\ e = [(4, .sv (.one (.int .i64 i))), (3, .sv (.one (.int .i64 u))), (0, .sv (.one (.sl (l.map encD))))]) l.length _ ⟨0, 0, by simp, rfl⟩ (by simp [go_sem]) ?_
  rintro n e ⟨i, u, hi, rfl⟩
  by_cases hlt : i < l.length
  ·obtain ⟨d, hd⟩ : ∃ d, l[i] = d := ⟨_, rfl⟩
   have hdp := hp l[i] (List.getElem_mem hlt)
   rw [hd] at hdp
   obtain ⟨h1, h2, h3⟩ := hdp
   repeat' first | refine St.go ?_ | ((with_reducible refine cn ?_ ?_) <;> intro h <;> (try simp [hlt, hd] at h) <;> try omega) | (refine Ru.go ?_; intro K hK; simp [go_sem, hlt, hd, encD]; (try simp (disch := omega) only [wx, z_i]); (first | apply hK | refine ⟨ob, ?_⟩ | refine ⟨hK _ ?_, fun h => ?_⟩ | refine ⟨?_, ?_⟩); all_goals ((try apply hK); clear hK K))
   refine z_j (n - 1) _ (by omega) ⟨i + 1, IntKind.i64.wrap (u + (d.fields.length + d.diffs.length + d.equals.length)), by omega, rfl⟩ ?_
   simp [go_sem]
  ·have hie : i = l.length := by omega
   repeat' first | refine St.go ?_ | ((with_reducible refine cn ?_ ?_) <;> intro h <;> (try simp [hlt, h60'] at h) <;> try omega) | (refine Ru.go ?_; intro K hK; simp [go_sem, hlt, h60']; (try simp (disch := omega) only [wx, z_i]); (first | apply hK | refine ⟨ob, ?_⟩ | refine ⟨hK _ ?_, fun h => ?_⟩ | refine ⟨?_, ?_⟩); all_goals ((try apply hK); clear hK K))
   simp [go_sem, hv]
def fewG (g : Glob) : Bool := decide (g.states <= 40) && decide (g.edges.length <= 80) && decide (g.timeouts.length <= 40) && decide (g.roles.length <= 10) && fewD g.decls
theorem f10 (g : Glob) (hl : g.decls.length <= 1000000000000000) (hp : ∀ d ∈ g.decls, d.fields.length <= 1000000000000000 /\ d.diffs.length <= 1000000000000000 /\ d.equals.length <= 1000000000000000) : Impl Tryz.prog 10 [.ag (encG g)] (.one (.one (.bool (fewG g)))) := by
 have c1 := f38 g.decls hl hp
 refine impl_w Tryz.func10 z10 Tryz.ntmps10 (by simp) ?_
 simp only [slotsOf]
 conv => arg 2; reduce
 have hv : fewG g = (decide (g.states <= 40) && decide ((g.edges.length : Int) <= 80) && decide ((g.timeouts.length : Int) <= 40) && decide ((g.roles.length : Int) <= 10) && fewD g.decls) := by
  unfold fewG
  rw [Bool.eq_iff_iff]
  simp
  omega
 obtain ⟨V, hV⟩ : ∃ V, fewG g = V := ⟨_, rfl⟩
 rw [hV] at hv ⊢
 by_cases h1 : g.states <= 40
 ·by_cases h2 : (g.edges.length : Int) <= 80
  ·by_cases h3 : (g.timeouts.length : Int) <= 40
   ·by_cases h4 : (g.roles.length : Int) <= 10
    ·skip
     have q_ := aN h1 <| aN h2 <| aN h3 <| h4
     repeat' first | refine St.go ?_ | (refine Ru.go ?_; intro K hK; simp [go_sem, encG, q_]; (first | apply hK | ((try refine .inl ?_); refine ⟨_, by (try intro hc); (repeat' first | exact c1 | exact hc | refine And.intro ?_ ?_ | simp [go_sem, encG, q_]); first | done | omega, ?_⟩; first | apply hK | (refine ⟨by simp [go_sem, encG, q_], ?_⟩; apply hK)) | refine ⟨.one (.one (.bool false)), by simp [go_sem, encG, q_], hK _ _ ?_⟩ | refine ⟨ob, ?_⟩ | refine ⟨hK _ ?_, fun h => ?_⟩ | refine ⟨?_, ?_⟩); all_goals ((try apply hK); clear hK K))
     all_goals try clear q_
     simp [go_sem, hv, h1, h2, h3, h4]
    ·skip
     repeat' first | refine St.go ?_ | (refine Ru.go ?_; intro K hK; simp [go_sem, encG, h1, h2, h3, h4]; (first | apply hK | refine ⟨ob, ?_⟩ | refine ⟨hK _ ?_, fun h => ?_⟩ | refine ⟨?_, ?_⟩); all_goals ((try apply hK); clear hK K))
     simp [go_sem, hv, h4]
   ·skip
    repeat' first | refine St.go ?_ | (refine Ru.go ?_; intro K hK; simp [go_sem, encG, h1, h2, h3]; (first | apply hK | refine ⟨ob, ?_⟩ | refine ⟨hK _ ?_, fun h => ?_⟩ | refine ⟨?_, ?_⟩); all_goals ((try apply hK); clear hK K))
    simp [go_sem, hv, h3]
  ·skip
   repeat' first | refine St.go ?_ | (refine Ru.go ?_; intro K hK; simp [go_sem, encG, h1, h2]; (first | apply hK | refine ⟨ob, ?_⟩ | refine ⟨hK _ ?_, fun h => ?_⟩ | refine ⟨?_, ?_⟩); all_goals ((try apply hK); clear hK K))
   simp [go_sem, hv, h2]
 ·skip
  repeat' first | refine St.go ?_ | (refine Ru.go ?_; intro K hK; simp [go_sem, encG, h1]; (first | apply hK | refine ⟨ob, ?_⟩ | refine ⟨hK _ ?_, fun h => ?_⟩ | refine ⟨?_, ?_⟩); all_goals ((try apply hK); clear hK K))
  simp [go_sem, hv, h1]
deriving instance DecidableEq for Fld, Dff, Edg, Tmo
theorem f42 (a b : List ByteArray) (ha : a.length <= 1000000) (hb : b.length <= 1000000) : Impl Tryz.prog 42 [.one (.sl (a.map encS)), .one (.sl (b.map encS))] (.one (.one (.bool (decide (a = b))))) := by
 refine impl_w Tryz.func42 z42 Tryz.ntmps42 (by simp) ?_
 simp only [slotsOf]
 conv => arg 2; reduce
 repeat' first | refine St.go ?_ | ((with_reducible refine cn ?_ ?_) <;> intro h <;> (try simp at h) <;> try omega) | (refine Ru.go ?_; intro K hK; simp [go_sem]; (try simp (disch := omega) only [wx, z_i]); (first | apply hK | refine ⟨ob, ?_⟩ | refine ⟨hK _ ?_, fun h => ?_⟩ | refine ⟨?_, ?_⟩); all_goals ((try apply hK); clear hK K))
 ·have hne : a ≠ b := fun e => h (by rw [e])
  simp [go_sem, hne]
 ·have hab : a.length = b.length := by omega
  refine z_k (fun n e => ∃ k, k + n = a.length /\ a.take k = b.take k /\ e = [(13, .sv (.one (.int .i64 (k : Nat)))), (12, .sv (.one (.int .i64 a.length))), (4, .sv (.one (.bool false))), (0, .sv (.one (.sl (a.map encS)))), (1, .sv (.one (.sl (b.map encS))))]) a.length _ ⟨0, by simp, by simp, rfl⟩ (by simp [go_sem]) ?_
  rintro n e ⟨k, hk, htk, rfl⟩
  by_cases hlt : k < a.length
  ·have hlt' : k < b.length := by omega
   repeat' first | refine St.go ?_ | ((with_reducible refine cn ?_ ?_) <;> intro h <;> (try simp [hlt, hlt'] at h) <;> try omega) | (refine Ru.go ?_; intro K hK; simp [go_sem, hlt, hlt', encS, bytes_eq]; (try simp (disch := omega) only [wx, z_i]); (first | apply hK | refine ⟨ob, ?_⟩ | refine ⟨hK _ ?_, fun h => ?_⟩ | refine ⟨?_, ?_⟩); all_goals ((try apply hK); clear hK K))
   ·have hne : a ≠ b := fun e => by subst e; simp at h
    simp [go_sem, hne]
   ·have hkk : a[k] = b[k] := by
     simp_all
    refine z_j (n - 1) _ (by omega) ⟨k + 1, by omega, ?_, rfl⟩ ?_
    ·rw [List.take_succ_eq_append_getElem hlt, List.take_succ_eq_append_getElem hlt', htk, hkk]
    ·simp [go_sem]
  ·have hkl : a.take k = a := List.take_of_length_le (by omega)
   have hkl' : b.take k = b := List.take_of_length_le (by omega)
   have : a = b := by rw [<- hkl, <- hkl', htk]
   repeat' first | refine St.go ?_ | ((with_reducible refine cn ?_ ?_) <;> intro h <;> (try simp [hlt] at h) <;> try omega) | (refine Ru.go ?_; intro K hK; simp [go_sem, hlt]; (try simp (disch := omega) only [wx, z_i]); (first | apply hK | refine ⟨ob, ?_⟩ | refine ⟨hK _ ?_, fun h => ?_⟩ | refine ⟨?_, ?_⟩); all_goals ((try apply hK); clear hK K))
   simp [go_sem, this]
theorem f88 (a b : List Fld) (ha : a.length <= 1000000) (hb : b.length <= 1000000) : Impl Tryz.prog 88 [.one (.sl (a.map encF)), .one (.sl (b.map encF))] (.one (.one (.bool (decide (a = b))))) := by
 refine impl_w Tryz.func88 z88 Tryz.ntmps88 (by simp) ?_
 simp only [slotsOf]
 conv => arg 2; reduce
 repeat' first | refine St.go ?_ | ((with_reducible refine cn ?_ ?_) <;> intro h <;> (try simp at h) <;> try omega) | (refine Ru.go ?_; intro K hK; simp [go_sem]; (try simp (disch := omega) only [wx, z_i]); (first | apply hK | refine ⟨ob, ?_⟩ | refine ⟨hK _ ?_, fun h => ?_⟩ | refine ⟨?_, ?_⟩); all_goals ((try apply hK); clear hK K))
 ·have hne : a ≠ b := fun e => h (by rw [e])
  simp [go_sem, hne]
 ·have hab : a.length = b.length := by omega
  refine z_k (fun n e => ∃ k, k + n = a.length /\ a.take k = b.take k /\ e = [(13, .sv (.one (.int .i64 (k : Nat)))), (12, .sv (.one (.int .i64 a.length))), (4, .sv (.one (.bool false))), (0, .sv (.one (.sl (a.map encF)))), (1, .sv (.one (.sl (b.map encF))))]) a.length _ ⟨0, by simp, by simp, rfl⟩ (by simp [go_sem]) ?_
  rintro n e ⟨k, hk, htk, rfl⟩
  by_cases hlt : k < a.length
  ·have hlt' : k < b.length := by omega
   repeat' first | refine St.go ?_ | ((with_reducible refine cn ?_ ?_) <;> intro h <;> (try simp [hlt, hlt'] at h) <;> try omega) | (refine Ru.go ?_; intro K hK; simp [go_sem, hlt, hlt', encF, bytes_eq]; (try simp (disch := omega) only [wx, z_i]); (first | apply hK | refine ⟨ob, ?_⟩ | refine ⟨hK _ ?_, fun h => ?_⟩ | refine ⟨?_, ?_⟩); all_goals ((try apply hK); clear hK K))
   ·have hne : a ≠ b := fun e => by subst e; simp at h
    simp [go_sem, hne]
   ·have hkk : a[k] = b[k] := by
     cases ha' : a[k]; cases hb' : b[k]
     simp_all
    refine z_j (n - 1) _ (by omega) ⟨k + 1, by omega, ?_, rfl⟩ ?_
    ·rw [List.take_succ_eq_append_getElem hlt, List.take_succ_eq_append_getElem hlt', htk, hkk]
    ·simp [go_sem]
  ·have hkl : a.take k = a := List.take_of_length_le (by omega)
   have hkl' : b.take k = b := List.take_of_length_le (by omega)
   have : a = b := by rw [<- hkl, <- hkl', htk]
   repeat' first | refine St.go ?_ | ((with_reducible refine cn ?_ ?_) <;> intro h <;> (try simp [hlt] at h) <;> try omega) | (refine Ru.go ?_; intro K hK; simp [go_sem, hlt]; (try simp (disch := omega) only [wx, z_i]); (first | apply hK | refine ⟨ob, ?_⟩ | refine ⟨hK _ ?_, fun h => ?_⟩ | refine ⟨?_, ?_⟩); all_goals ((try apply hK); clear hK K))
   simp [go_sem, this]
theorem f80 (l : List ByteArray) (hl : l.length <= 1000000) : Impl Tryz.prog 80 [.one (.sl (l.map encS))] (.one (.one (.sl (l.map encS)))) := by
 refine impl_w Tryz.func80 z80 Tryz.ntmps80 (by simp) ?_
 simp only [slotsOf]
 conv => arg 2; reduce
 have hap : True := trivial
 repeat' first | refine St.go ?_ | ((with_reducible refine cn ?_ ?_) <;> intro h <;> (try simp at h) <;> try omega) | (refine Ru.go ?_; intro K hK; simp [go_sem, encS]; (first | apply hK | refine ⟨by first | omega | (simp [z_f, z_g, encS, maxLen, DV.flat]; first | done | omega), ?_⟩ | refine ⟨hK _ ?_, fun h => ?_⟩ | refine ⟨?_, ?_⟩); all_goals ((try apply hK); clear hK K))
 all_goals first | exact hap | simp_all [go_sem, frzLL_map, frzL, DV.frz, encS]
theorem f81 (l : List Edg) (hl : l.length <= 1000000) : Impl Tryz.prog 81 [.one (.sl (l.map encEd))] (.one (.one (.sl (l.map encEd)))) := by
 refine impl_w Tryz.func81 z81 Tryz.ntmps81 (by simp) ?_
 simp only [slotsOf]
 conv => arg 2; reduce
 have hap : True := trivial
 repeat' first | refine St.go ?_ | ((with_reducible refine cn ?_ ?_) <;> intro h <;> (try simp at h) <;> try omega) | (refine Ru.go ?_; intro K hK; simp [go_sem, encEd]; (first | apply hK | refine ⟨by first | omega | (simp [z_f, z_g, encEd, maxLen, DV.flat]; first | done | omega), ?_⟩ | refine ⟨hK _ ?_, fun h => ?_⟩ | refine ⟨?_, ?_⟩); all_goals ((try apply hK); clear hK K))
 all_goals first | exact hap | simp_all [go_sem, frzLL_map, frzL, DV.frz, encEd]
theorem f82 (l : List Tmo) (hl : l.length <= 1000000) : Impl Tryz.prog 82 [.one (.sl (l.map encT))] (.one (.one (.sl (l.map encT)))) := by
 refine impl_w Tryz.func82 z82 Tryz.ntmps82 (by simp) ?_
 simp only [slotsOf]
 conv => arg 2; reduce
 have hap : True := trivial
 repeat' first | refine St.go ?_ | ((with_reducible refine cn ?_ ?_) <;> intro h <;> (try simp at h) <;> try omega) | (refine Ru.go ?_; intro K hK; simp [go_sem, encT]; (first | apply hK | refine ⟨by first | omega | (simp [z_f, z_g, encT, maxLen, DV.flat]; first | done | omega), ?_⟩ | refine ⟨hK _ ?_, fun h => ?_⟩ | refine ⟨?_, ?_⟩); all_goals ((try apply hK); clear hK K))
 all_goals first | exact hap | simp_all [go_sem, frzLL_map, frzL, DV.frz, encT]
theorem f83 (l : List Fld) (hl : l.length <= 1000000) : Impl Tryz.prog 83 [.one (.sl (l.map encF))] (.one (.one (.sl (l.map encF)))) := by
 refine impl_w Tryz.func83 z83 Tryz.ntmps83 (by simp) ?_
 simp only [slotsOf]
 conv => arg 2; reduce
 have hap : True := trivial
 repeat' first | refine St.go ?_ | ((with_reducible refine cn ?_ ?_) <;> intro h <;> (try simp at h) <;> try omega) | (refine Ru.go ?_; intro K hK; simp [go_sem, encF]; (first | apply hK | refine ⟨by first | omega | (simp [z_f, z_g, encF, maxLen, DV.flat]; first | done | omega), ?_⟩ | refine ⟨hK _ ?_, fun h => ?_⟩ | refine ⟨?_, ?_⟩); all_goals ((try apply hK); clear hK K))
 all_goals first | exact hap | simp_all [go_sem, frzLL_map, frzL, DV.frz, encF]
theorem f84 (l : List Dff) (hl : l.length <= 1000000) : Impl Tryz.prog 84 [.one (.sl (l.map encDf))] (.one (.one (.sl (l.map encDf)))) := by
 refine impl_w Tryz.func84 z84 Tryz.ntmps84 (by simp) ?_
 simp only [slotsOf]
 conv => arg 2; reduce
 have hap : True := trivial
 repeat' first | refine St.go ?_ | ((with_reducible refine cn ?_ ?_) <;> intro h <;> (try simp at h) <;> try omega) | (refine Ru.go ?_; intro K hK; simp [go_sem, encDf]; (first | apply hK | refine ⟨by first | omega | (simp [z_f, z_g, encDf, maxLen, DV.flat]; first | done | omega), ?_⟩ | refine ⟨hK _ ?_, fun h => ?_⟩ | refine ⟨?_, ?_⟩); all_goals ((try apply hK); clear hK K))
 all_goals first | exact hap | simp_all [go_sem, frzLL_map, frzL, DV.frz, encDf]
theorem f85 (l : List (Int × Int)) (hl : l.length <= 1000000) : Impl Tryz.prog 85 [.one (.sl (l.map encEq))] (.one (.one (.sl (l.map encEq)))) := by
 refine impl_w Tryz.func85 z85 Tryz.ntmps85 (by simp) ?_
 simp only [slotsOf]
 conv => arg 2; reduce
 have hap : z_f 2 16 [] (l.map encEq) := by
  refine ⟨?_, ?_, by omega, ?_, ?_⟩
  ·rw [flatEls_map]; intro x _; rfl
  ·intro e he; obtain ⟨x, _, rfl⟩ := List.mem_map.1 he; rfl
  ·simp only [List.length_nil, List.length_map, maxLen]; omega
  ·simp only [List.length_nil, List.length_map]; omega
 repeat' first | refine St.go ?_ | ((with_reducible refine cn ?_ ?_) <;> intro h <;> (try simp at h) <;> try omega) | (refine Ru.go ?_; intro K hK; simp [go_sem, encEq]; (first | apply hK | refine ⟨by first | omega | (simp [z_f, z_g, encEq, maxLen, DV.flat]; first | done | omega), ?_⟩ | refine ⟨hK _ ?_, fun h => ?_⟩ | refine ⟨?_, ?_⟩); all_goals ((try apply hK); clear hK K))
 all_goals first | exact hap | simp_all [go_sem, frzLL_map, frzL, DV.frz, encEq]
theorem f87 (d : Dcl) (nm : ByteArray) : Impl Tryz.prog 87 [.ag (encD d), .one (.rf [.str nm])] (.one (.one (.bool (d.name == nm)))) := by
 refine impl_w Tryz.func87 z87 Tryz.ntmps87 (by simp) ?_
 simp only [slotsOf]
 conv => arg 2; reduce
 repeat' first | refine St.go ?_ | (refine Ru.go ?_; intro K hK; simp [go_sem, encD]; (first | apply hK | refine ⟨ob, ?_⟩ | refine ⟨hK _ ?_, fun h => ?_⟩ | refine ⟨?_, ?_⟩); all_goals ((try apply hK); clear hK K))
 simp [go_sem]
theorem f45 (g : Glob) (nm : ByteArray) (hl : g.decls.length <= 1000000) : Impl Tryz.prog 45 [.ag (encG g), .one (.str nm)] (.one (.one (.int .i64 (firstB (fun d => d.name == nm) g.decls)))) := by
 have k1 := f86 g.decls 87 [.rf [.str nm]] (fun d => d.name == nm) hl (fun x _ => f87 x nm)
 refine impl_w Tryz.func45 z45 Tryz.ntmps45 (by simp) ?_
 simp only [slotsOf]
 conv => arg 2; reduce
 repeat' first | refine St.go ?_ | (refine Ru.go ?_; intro K hK; simp [go_sem, encG]; (first | apply hK | ((try refine .inl ?_); refine ⟨_, by (repeat' first | exact k1 | refine And.intro ?_ ?_ | simp [go_sem, encG]); first | done | omega, ?_⟩; first | apply hK | (refine ⟨by simp [go_sem, encG], ?_⟩; apply hK)) | refine ⟨ob, ?_⟩ | refine ⟨hK _ ?_, fun h => ?_⟩ | refine ⟨?_, ?_⟩); all_goals ((try apply hK); clear hK K))
 simp [go_sem]
abbrev Vr := ByteArray × ByteArray
def encV (v : Vr) : List DV := [.str v.1, .str v.2]
def varsOf (l : List Dcl) : List Vr := l.flatMap fun d => d.fields.map fun f => (d.name, f.name)
def nameOf (l : List Vr) (x : Int) : Vr := if x < 0 then (⟨#[]⟩, ⟨#[]⟩) else l.getD x.toNat (⟨#[]⟩, ⟨#[]⟩)
theorem f91 (l : List Vr) (x : Int) (hx : x < l.length) : Impl Tryz.prog 91 [.one (.sl (l.map encV)), .one (.int .i64 x)] (.one (.ag (encV (nameOf l x)))) := by
 refine impl_w Tryz.func91 z91 Tryz.ntmps91 (by simp) ?_
 simp only [slotsOf]
 conv => arg 2; reduce
 by_cases h0 : x < 0
 ·skip
  repeat' first | refine St.go ?_ | ((with_reducible refine cn ?_ ?_) <;> intro h <;> (try simp [h0] at h) <;> try omega) | (refine Ru.go ?_; intro K hK; simp [go_sem, h0]; (first | apply hK | refine ⟨ob, ?_⟩ | refine ⟨hK _ ?_, fun h => ?_⟩ | refine ⟨?_, ?_⟩); all_goals ((try apply hK); clear hK K))
  simp [go_sem, nameOf, h0, encV]
 ·have hlt : x.toNat < l.length := by omega
  obtain ⟨v, hv⟩ : ∃ v, l[x.toNat] = v := ⟨_, rfl⟩
  have hn : nameOf l x = v := by
   unfold nameOf
   rw [if_neg h0, List.getD_eq_getElem?_getD, List.getElem?_eq_getElem hlt, hv]
   rfl
  have h1 : 0 <= x := by omega
  repeat' first | refine St.go ?_ | ((with_reducible refine cn ?_ ?_) <;> intro h <;> (try simp [h0, h1, hlt, hv] at h) <;> try omega) | (refine Ru.go ?_; intro K hK; simp [go_sem, h0, h1, hlt, hv, encV]; (first | apply hK | refine ⟨ob, ?_⟩ | refine ⟨hK _ ?_, fun h => ?_⟩ | refine ⟨?_, ?_⟩); all_goals ((try apply hK); clear hK K))
  simp [go_sem, hn, encV]
theorem f44 (g : Glob) (hl : g.decls.length <= 1000) (hf : ∀ d ∈ g.decls, d.fields.length <= 100000) : Impl Tryz.prog 44 [.ag (encG g)] (.one (.one (.ow 2 ((varsOf g.decls).map encV)))) := by
 refine impl_w Tryz.func44 z44 Tryz.ntmps44 (by simp) ?_
 simp only [slotsOf]
 conv => arg 2; reduce
 repeat' first | refine St.go ?_ | ((with_reducible refine cn ?_ ?_) <;> intro h <;> (try simp at h) <;> try omega) | (refine Ru.go ?_; intro K hK; simp [go_sem, encG]; (try simp (disch := omega) only [wx, z_i]); (first | apply hK | refine ⟨by first | omega | (simp [z_f, z_g, encG]; first | done | omega), ?_⟩ | refine ⟨hK _ ?_, fun h => ?_⟩ | refine ⟨?_, ?_⟩); all_goals ((try apply hK); clear hK K))
 refine z_k (fun n e => ∃ (i : Nat) (out : List Vr), i + n = g.decls.length /\ out = varsOf (g.decls.take i) /\ out.length <= i * 100000 /\ e = [(11, .sv (.one (.int .i64 i))), (10, .sv (.one (.int .i64 g.decls.length))), (9, .sv (.one (.sl (g.decls.map encD)))), (3, .sv (.one (.ow 2 (out.map encV))))]) g.decls.length _ ⟨0, [], by simp, rfl, by simp, rfl⟩ (by simp [go_sem, encG]) ?_
 rintro n e ⟨i, out, hi, hout, hol, rfl⟩
 by_cases hlt : i < g.decls.length
 ·obtain ⟨d, hd⟩ : ∃ d, g.decls[i] = d := ⟨_, rfl⟩
  have hdf := hf d (hd ▸ List.getElem_mem hlt)
  have hsucc : varsOf (g.decls.take (i + 1)) = out ++ d.fields.map fun f => (d.name, f.name) := by
   rw [hout, varsOf, varsOf, List.take_succ_eq_append_getElem hlt, List.flatMap_append, hd]
   simp
  repeat' first | refine St.go ?_ | ((with_reducible refine cn ?_ ?_) <;> intro h <;> (try simp [hlt, hd] at h) <;> try omega) | (refine Ru.go ?_; intro K hK; simp [go_sem, hlt, hd, encD]; (try simp (disch := omega) only [wx, z_i]); (first | apply hK | refine ⟨by first | omega | (simp [z_f, z_g, hlt, hd, encD]; first | done | omega), ?_⟩ | refine ⟨hK _ ?_, fun h => ?_⟩ | refine ⟨?_, ?_⟩); all_goals ((try apply hK); clear hK K))
  refine z_k (fun q e => ∃ (k : Nat) (o2 : List Vr), k + q = d.fields.length /\ o2 = out ++ (d.fields.take k).map (fun f => (d.name, f.name)) /\ e = [(18, .sv (.one (.int .i64 k))), (17, .sv (.one (.int .i64 d.fields.length))), (16, .sv (.one (.sl (d.fields.map encF)))), (5, .sv (.one (.bx (encD d)))), (11, .sv (.one (.int .i64 i))), (10, .sv (.one (.int .i64 g.decls.length))), (9, .sv (.one (.sl (g.decls.map encD)))), (3, .sv (.one (.ow 2 (o2.map encV))))]) d.fields.length _ ⟨0, out, by simp, by simp, rfl⟩ (by simp [go_sem, encD]) ?_
  rintro q e ⟨k, o2, hk, ho2, rfl⟩
  by_cases hlt2 : k < d.fields.length
  ·obtain ⟨f, hff⟩ : ∃ f, d.fields[k] = f := ⟨_, rfl⟩
   have ho2l : o2.length <= out.length + k := by rw [ho2]; simp; omega
   have hap : z_f 2 32 (o2.map encV) [[.str d.name, .str f.name]] := by
    refine ⟨?_, ?_, by omega, ?_, ?_⟩
    ·intro e he; rw [List.mem_singleton.1 he]; rfl
    ·intro e he; rw [List.mem_singleton.1 he]; rfl
    ·simp only [List.length_map, List.length_singleton, maxLen]; omega
    ·simp only [List.length_map, List.length_singleton]; omega
   repeat' first | refine St.go ?_ | ((with_reducible refine cn ?_ ?_) <;> intro h <;> (try simp [hlt2, hff] at h) <;> try omega) | (refine Ru.go ?_; intro K hK; simp [go_sem, hlt2, hff, encF, encD]; (try simp (disch := omega) only [wx, z_i]); (first | apply hK | refine ⟨by first | omega | (simp [z_f, z_g, hlt2, hff, encF, encD]; first | done | omega), ?_⟩ | refine ⟨hK _ ?_, fun h => ?_⟩ | refine ⟨?_, ?_⟩); all_goals ((try apply hK); clear hK K))
   all_goals first | exact hap | skip
   refine z_j (q - 1) _ (by omega) ⟨k + 1, o2 ++ [(d.name, f.name)], by omega, by rw [ho2, List.take_succ_eq_append_getElem hlt2, hff]; simp, rfl⟩ ?_
   simp [go_sem, encV, encD]
  ·have hkf : d.fields.take k = d.fields := List.take_of_length_le (by omega)
   rw [hkf, <- hsucc] at ho2
   have ho2l : o2.length <= (i + 1) * 100000 := by
    rw [ho2, hsucc, List.length_append, List.length_map]
    omega
   repeat' first | refine St.go ?_ | ((with_reducible refine cn ?_ ?_) <;> intro h <;> (try simp [hlt2] at h) <;> try omega) | (refine Ru.go ?_; intro K hK; simp [go_sem, hlt2]; (try simp (disch := omega) only [wx, z_i]); (first | apply hK | refine ⟨by first | omega | (simp [z_f, z_g, hlt2]; first | done | omega), ?_⟩ | refine ⟨hK _ ?_, fun h => ?_⟩ | refine ⟨?_, ?_⟩); all_goals ((try apply hK); clear hK K))
   refine z_j (n - 1) _ (by omega) ⟨i + 1, o2, by omega, ho2, ho2l, rfl⟩ ?_
   simp [go_sem]
 ·have hkl : g.decls.take i = g.decls := List.take_of_length_le (by omega)
  rw [hkl] at hout
  repeat' first | refine St.go ?_ | ((with_reducible refine cn ?_ ?_) <;> intro h <;> (try simp [hlt] at h) <;> try omega) | (refine Ru.go ?_; intro K hK; simp [go_sem, hlt]; (try simp (disch := omega) only [wx, z_i]); (first | apply hK | refine ⟨by first | omega | (simp [z_f, z_g, hlt]; first | done | omega), ?_⟩ | refine ⟨hK _ ?_, fun h => ?_⟩ | refine ⟨?_, ?_⟩); all_goals ((try apply hK); clear hK K))
  simp [go_sem, hout]
def eqF {α : Type} (p : α -> α -> Bool) (a b : List α) : Bool := decide (a.length = b.length) && (a.zip b).all fun x => p x.1 x.2
theorem eqF_take {α : Type} {p : α -> α -> Bool} {a b : List α} (hab : a.length = b.length) : eqF p a b = (a.zip b).all fun x => p x.1 x.2 := by simp [eqF, hab]
theorem zip_len {α : Type} {a b : List α} (hab : a.length = b.length) : (a.zip b).length = a.length := by rw [List.length_zip]; omega
theorem zip_at {α : Type} {a b : List α} {k : Nat} (h1 : k < a.length) (h2 : k < b.length) : (a.zip b)[k]'(by rw [List.length_zip]; omega) = (a[k], b[k]) := by simp
theorem f89 (a b : List Dff) (g : FuncId) (caps : List DV) (p : Dff -> Dff -> Bool) (ha : a.length <= 1000000) (hb : b.length <= 1000000) (hg : ∀ x ∈ a, ∀ y ∈ b, Impl Tryz.prog g ([.ag (encDf x), .ag (encDf y)] ++ caps.map .one) (.one (.one (.bool (p x y))))) :
  Impl Tryz.prog 89 [.one (.sl (a.map encDf)), .one (.sl (b.map encDf)), .one (.fn g caps)] (.one (.one (.bool (eqF p a b)))) := by
 refine impl_w Tryz.func89 z89 Tryz.ntmps89 (by simp) ?_
 simp only [slotsOf]
 conv => arg 2; reduce
 by_cases hab : a.length = b.length
 ·have hz := zip_len hab
  rw [eqF_take hab]
  obtain ⟨V, hV⟩ : ∃ V, V = (a.zip b).all fun x => p x.1 x.2 := ⟨_, rfl⟩
  rw [<- hV]
  repeat' first | refine St.go ?_ | ((with_reducible refine cn ?_ ?_) <;> intro h <;> (try simp [hab] at h) <;> try omega) | (refine Ru.go ?_; intro K hK; simp [go_sem, hab]; (try simp (disch := omega) only [wx, z_i]); (first | apply hK | refine ⟨ob, ?_⟩ | refine ⟨hK _ ?_, fun h => ?_⟩ | refine ⟨?_, ?_⟩); all_goals ((try apply hK); clear hK K))
  refine z_k (fun n e => ∃ k, k + n = a.length /\ ((a.zip b).take k).all (fun x => p x.1 x.2) = true /\ e = [(17, .sv (.one (.int .i64 (k : Nat)))), (16, .sv (.one (.int .i64 b.length))), (15, .sv (.one (.sl (a.map encDf)))), (0, .sv (.one (.sl (a.map encDf)))), (1, .sv (.one (.sl (b.map encDf)))), (2, .sv (.one (.fn g caps)))]) a.length _ ⟨0, by simp, by simp, rfl⟩ (by simp [go_sem, hab]) ?_
  rintro n e ⟨k, hk, htk, rfl⟩
  by_cases hlt : k < b.length
  ·have hlt' : k < a.length := by omega
   obtain ⟨x, hx⟩ : ∃ x, a[k] = x := ⟨_, rfl⟩
   obtain ⟨y, hy⟩ : ∃ y, b[k] = y := ⟨_, rfl⟩
   have k1 := hg x (hx ▸ List.getElem_mem hlt') y (hy ▸ List.getElem_mem hlt)
   have hzk := zip_at hlt' hlt
   rw [hx, hy] at hzk
   have hkz : k < (a.zip b).length := by omega
   simp only [encDf] at k1
   cases hp : p x y with
   | true =>
     rw [hp] at k1
     have q_ := aN hlt <| aN hlt' <| aN hx <| hy
     repeat' first | refine St.go ?_ | ((with_reducible refine cn ?_ ?_) <;> intro h <;> (try simp [q_] at h) <;> try omega) | (refine Ru.go ?_; intro K hK; simp [go_sem, encDf, q_]; (try simp (disch := omega) only [wx, z_i]); (first | apply hK | ((try refine .inl ?_); refine ⟨_, by (repeat' first | exact k1 | refine And.intro ?_ ?_ | simp [go_sem, encDf, q_]); first | done | omega, ?_⟩; first | apply hK | (refine ⟨by simp [go_sem, encDf, q_], ?_⟩; apply hK)) | refine ⟨ob, ?_⟩ | refine ⟨hK _ ?_, fun h => ?_⟩ | refine ⟨?_, ?_⟩); all_goals ((try apply hK); clear hK K))
     all_goals try clear q_
     refine z_j (n - 1) _ (by omega) ⟨k + 1, by omega, ?_, rfl⟩ ?_
     ·rw [List.take_succ_eq_append_getElem hkz, List.all_append, htk, hzk]
      simp [hp]
     ·simp [go_sem]
   | false =>
     rw [hp] at k1
     have hVf : V = false := by
      rw [hV, <- Bool.not_eq_true, List.all_eq_true]
      intro h0
      have := h0 _ (List.getElem_mem hkz)
      rw [hzk] at this
      simp [hp] at this
     have q_ := aN hlt <| aN hlt' <| aN hx <| hy
     repeat' first | refine St.go ?_ | ((with_reducible refine cn ?_ ?_) <;> intro h <;> (try simp [q_] at h) <;> try omega) | (refine Ru.go ?_; intro K hK; simp [go_sem, encDf, q_]; (try simp (disch := omega) only [wx, z_i]); (first | apply hK | ((try refine .inl ?_); refine ⟨_, by (repeat' first | exact k1 | refine And.intro ?_ ?_ | simp [go_sem, encDf, q_]); first | done | omega, ?_⟩; first | apply hK | (refine ⟨by simp [go_sem, encDf, q_], ?_⟩; apply hK)) | refine ⟨ob, ?_⟩ | refine ⟨hK _ ?_, fun h => ?_⟩ | refine ⟨?_, ?_⟩); all_goals ((try apply hK); clear hK K))
     all_goals try clear q_
     simp [go_sem, hVf]
  ·have hkl : (a.zip b).take k = a.zip b := List.take_of_length_le (by omega)
   rw [hkl, <- hV] at htk
   repeat' first | refine St.go ?_ | ((with_reducible refine cn ?_ ?_) <;> intro h <;> (try simp [hlt] at h) <;> try omega) | (refine Ru.go ?_; intro K hK; simp [go_sem, hlt]; (try simp (disch := omega) only [wx, z_i]); (first | apply hK | refine ⟨ob, ?_⟩ | refine ⟨hK _ ?_, fun h => ?_⟩ | refine ⟨?_, ?_⟩); all_goals ((try apply hK); clear hK K))
   simp [go_sem, htk]
 ·have hab' : ¬ (a.length : Int) = (b.length : Int) := by omega
  have he : eqF p a b = false := by simp [eqF, hab]
  rw [he]
  repeat' first | refine St.go ?_ | ((with_reducible refine cn ?_ ?_) <;> intro h <;> (try simp [hab, hab'] at h) <;> try omega) | (refine Ru.go ?_; intro K hK; simp [go_sem, hab, hab']; (try simp (disch := omega) only [wx, z_i]); (first | apply hK | refine ⟨ob, ?_⟩ | refine ⟨hK _ ?_, fun h => ?_⟩ | refine ⟨?_, ?_⟩); all_goals ((try apply hK); clear hK K))
  simp [go_sem]
theorem f92 (a b : List (Int × Int)) (g : FuncId) (caps : List DV) (p : Int × Int -> Int × Int -> Bool) (ha : a.length <= 1000000) (hb : b.length <= 1000000) (hg : ∀ x ∈ a, ∀ y ∈ b, Impl Tryz.prog g ([.ag (encEq x), .ag (encEq y)] ++ caps.map .one) (.one (.one (.bool (p x y))))) :
  Impl Tryz.prog 92 [.one (.sl (a.map encEq)), .one (.sl (b.map encEq)), .one (.fn g caps)] (.one (.one (.bool (eqF p a b)))) := by
 refine impl_w Tryz.func92 z92 Tryz.ntmps92 (by simp) ?_
 simp only [slotsOf]
 conv => arg 2; reduce
 by_cases hab : a.length = b.length
 ·have hz := zip_len hab
  rw [eqF_take hab]
  obtain ⟨V, hV⟩ : ∃ V, V = (a.zip b).all fun x => p x.1 x.2 := ⟨_, rfl⟩
  rw [<- hV]
  repeat' first | refine St.go ?_ | ((with_reducible refine cn ?_ ?_) <;> intro h <;> (try simp [hab] at h) <;> try omega) | (refine Ru.go ?_; intro K hK; simp [go_sem, hab]; (try simp (disch := omega) only [wx, z_i]); (first | apply hK | refine ⟨ob, ?_⟩ | refine ⟨hK _ ?_, fun h => ?_⟩ | refine ⟨?_, ?_⟩); all_goals ((try apply hK); clear hK K))
  refine z_k (fun n e => ∃ k, k + n = a.length /\ ((a.zip b).take k).all (fun x => p x.1 x.2) = true /\ e = [(17, .sv (.one (.int .i64 (k : Nat)))), (16, .sv (.one (.int .i64 b.length))), (15, .sv (.one (.sl (a.map encEq)))), (0, .sv (.one (.sl (a.map encEq)))), (1, .sv (.one (.sl (b.map encEq)))), (2, .sv (.one (.fn g caps)))]) a.length _ ⟨0, by simp, by simp, rfl⟩ (by simp [go_sem, hab]) ?_
  rintro n e ⟨k, hk, htk, rfl⟩
  by_cases hlt : k < b.length
  ·have hlt' : k < a.length := by omega
   obtain ⟨x, hx⟩ : ∃ x, a[k] = x := ⟨_, rfl⟩
   obtain ⟨y, hy⟩ : ∃ y, b[k] = y := ⟨_, rfl⟩
   have k1 := hg x (hx ▸ List.getElem_mem hlt') y (hy ▸ List.getElem_mem hlt)
   have hzk := zip_at hlt' hlt
   rw [hx, hy] at hzk
   have hkz : k < (a.zip b).length := by omega
   simp only [encEq] at k1
   cases hp : p x y with
   | true =>
     rw [hp] at k1
     have q_ := aN hlt <| aN hlt' <| aN hx <| hy
     repeat' first | refine St.go ?_ | ((with_reducible refine cn ?_ ?_) <;> intro h <;> (try simp [q_] at h) <;> try omega) | (refine Ru.go ?_; intro K hK; simp [go_sem, encEq, q_]; (try simp (disch := omega) only [wx, z_i]); (first | apply hK | ((try refine .inl ?_); refine ⟨_, by (repeat' first | exact k1 | refine And.intro ?_ ?_ | simp [go_sem, encEq, q_]); first | done | omega, ?_⟩; first | apply hK | (refine ⟨by simp [go_sem, encEq, q_], ?_⟩; apply hK)) | refine ⟨ob, ?_⟩ | refine ⟨hK _ ?_, fun h => ?_⟩ | refine ⟨?_, ?_⟩); all_goals ((try apply hK); clear hK K))
     all_goals try clear q_
     refine z_j (n - 1) _ (by omega) ⟨k + 1, by omega, ?_, rfl⟩ ?_
     ·rw [List.take_succ_eq_append_getElem hkz, List.all_append, htk, hzk]
      simp [hp]
     ·simp [go_sem]
   | false =>
     rw [hp] at k1
     have hVf : V = false := by
      rw [hV, <- Bool.not_eq_true, List.all_eq_true]
      intro h0
      have := h0 _ (List.getElem_mem hkz)
      rw [hzk] at this
      simp [hp] at this
     have q_ := aN hlt <| aN hlt' <| aN hx <| hy
     repeat' first | refine St.go ?_ | ((with_reducible refine cn ?_ ?_) <;> intro h <;> (try simp [q_] at h) <;> try omega) | (refine Ru.go ?_; intro K hK; simp [go_sem, encEq, q_]; (try simp (disch := omega) only [wx, z_i]); (first | apply hK | ((try refine .inl ?_); refine ⟨_, by (repeat' first | exact k1 | refine And.intro ?_ ?_ | simp [go_sem, encEq, q_]); first | done | omega, ?_⟩; first | apply hK | (refine ⟨by simp [go_sem, encEq, q_], ?_⟩; apply hK)) | refine ⟨ob, ?_⟩ | refine ⟨hK _ ?_, fun h => ?_⟩ | refine ⟨?_, ?_⟩); all_goals ((try apply hK); clear hK K))
     all_goals try clear q_
     simp [go_sem, hVf]
  ·have hkl : (a.zip b).take k = a.zip b := List.take_of_length_le (by omega)
   rw [hkl, <- hV] at htk
   repeat' first | refine St.go ?_ | ((with_reducible refine cn ?_ ?_) <;> intro h <;> (try simp [hlt] at h) <;> try omega) | (refine Ru.go ?_; intro K hK; simp [go_sem, hlt]; (try simp (disch := omega) only [wx, z_i]); (first | apply hK | refine ⟨ob, ?_⟩ | refine ⟨hK _ ?_, fun h => ?_⟩ | refine ⟨?_, ?_⟩); all_goals ((try apply hK); clear hK K))
   simp [go_sem, htk]
 ·have hab' : ¬ (a.length : Int) = (b.length : Int) := by omega
  have he : eqF p a b = false := by simp [eqF, hab]
  rw [he]
  repeat' first | refine St.go ?_ | ((with_reducible refine cn ?_ ?_) <;> intro h <;> (try simp [hab, hab'] at h) <;> try omega) | (refine Ru.go ?_; intro K hK; simp [go_sem, hab, hab']; (try simp (disch := omega) only [wx, z_i]); (first | apply hK | refine ⟨ob, ?_⟩ | refine ⟨hK _ ?_, fun h => ?_⟩ | refine ⟨?_, ?_⟩); all_goals ((try apply hK); clear hK K))
  simp [go_sem]
def sameV (u v : Vr) : Bool := (u.1 == v.1) && (u.2 == v.2)
def sameD (x y : List Vr) (d e : Dff) : Bool := sameV (nameOf x d.x) (nameOf y e.x) && (sameV (nameOf x d.y) (nameOf y e.y) && d.c == e.c)
def sameE (x y : List Vr) (d e : Int × Int) : Bool := sameV (nameOf x d.1) (nameOf y e.1) && sameV (nameOf x d.2) (nameOf y e.2)
theorem f90 (x y : List Vr) (d e : Dff) (h1 : d.x < x.length) (h2 : d.y < x.length) (h3 : e.x < y.length) (h4 : e.y < y.length) :
  Impl Tryz.prog 90 [.ag (encDf d), .ag (encDf e), .one (.rf [.sl (x.map encV)]), .one (.rf [.sl (y.map encV)])] (.one (.one (.bool (sameD x y d e)))) := by
 have k1 := f91 x d.x h1
 have k2 := f91 y e.x h3
 have k3 := f91 x d.y h2
 have k4 := f91 y e.y h4
 obtain ⟨⟨a1, a2⟩, ha⟩ : ∃ a, a = nameOf x d.x := ⟨_, rfl⟩
 obtain ⟨⟨b1, b2⟩, hb⟩ : ∃ a, a = nameOf y e.x := ⟨_, rfl⟩
 obtain ⟨⟨c1, c2⟩, hc⟩ : ∃ a, a = nameOf x d.y := ⟨_, rfl⟩
 obtain ⟨⟨d1, d2⟩, hd⟩ : ∃ a, a = nameOf y e.y := ⟨_, rfl⟩
 have hv : sameD x y d e = (sameV (a1, a2) (b1, b2) && (sameV (c1, c2) (d1, d2) && d.c == e.c)) := by unfold sameD; rw [ha, hb, hc, hd]
 rw [<- ha] at k1
 rw [<- hb] at k2
 rw [<- hc] at k3
 rw [<- hd] at k4
 rw [hv]
 clear hv ha hb hc hd
 simp only [encV] at k1 k2 k3 k4
 refine impl_w Tryz.func90 z90 Tryz.ntmps90 (by simp) ?_
 simp only [slotsOf]
 conv => arg 2; reduce
 cases q1 : sameV (a1, a2) (b1, b2) with
 | false =>
   have q1' : ((a1 == b1) && (a2 == b2)) = false := q1
   repeat' first | refine St.go ?_ | (refine Ru.go ?_; intro K hK; simp [go_sem, encDf, q1']; (try simp (disch := omega) only [wx, z_i]); (first | apply hK | ((try refine .inl ?_); refine ⟨_, by (try intro hc); (repeat' first | exact k1 | exact k2 | exact k3 | exact k4 | exact hc | refine And.intro ?_ ?_ | simp [go_sem, encDf, q1']); first | done | omega, ?_⟩; first | apply hK | (refine ⟨by simp [go_sem, encDf, q1'], ?_⟩; first | apply hK | refine ⟨by simp [go_sem, encDf, q1'], hK _ _ ?_⟩)) | refine ⟨.one (.one (.bool false)), by simp [go_sem, encDf, q1'], hK _ _ ?_⟩ | refine ⟨ob, ?_⟩ | refine ⟨hK _ ?_, fun h => ?_⟩ | refine ⟨?_, ?_⟩); all_goals ((try apply hK); clear hK K))
   simp [go_sem]
 | true =>
   have q1' : ((a1 == b1) && (a2 == b2)) = true := q1
   simp only [Bool.and_eq_true] at q1'
   cases q2 : sameV (c1, c2) (d1, d2) with
   | false =>
     have q2' : ((c1 == d1) && (c2 == d2)) = false := q2
     repeat' first | refine St.go ?_ | (refine Ru.go ?_; intro K hK; simp [go_sem, encDf, q1'.1, q1'.2, q2']; (try simp (disch := omega) only [wx, z_i]); (first | apply hK | ((try refine .inl ?_); refine ⟨_, by (try intro hc); (repeat' first | exact k1 | exact k2 | exact k3 | exact k4 | exact hc | refine And.intro ?_ ?_ | simp [go_sem, encDf, q1'.1, q1'.2, q2']); first | done | omega, ?_⟩; first | apply hK | (refine ⟨by simp [go_sem, encDf, q1'.1, q1'.2, q2'], ?_⟩; first | apply hK | refine ⟨by simp [go_sem, encDf, q1'.1, q1'.2, q2'], hK _ _ ?_⟩)) | refine ⟨.one (.one (.bool false)), by simp [go_sem, encDf, q1'.1, q1'.2, q2'], hK _ _ ?_⟩ | refine ⟨ob, ?_⟩ | refine ⟨hK _ ?_, fun h => ?_⟩ | refine ⟨?_, ?_⟩); all_goals ((try apply hK); clear hK K))
     simp [go_sem]
   | true =>
     have q2' : ((c1 == d1) && (c2 == d2)) = true := q2
     simp only [Bool.and_eq_true] at q2'
     repeat' first | refine St.go ?_ | (refine Ru.go ?_; intro K hK; simp [go_sem, encDf, q1'.1, q1'.2, q2'.1, q2'.2]; (try simp (disch := omega) only [wx, z_i]); (first | apply hK | ((try refine .inl ?_); refine ⟨_, by (try intro hc); (repeat' first | exact k1 | exact k2 | exact k3 | exact k4 | exact hc | refine And.intro ?_ ?_ | simp [go_sem, encDf, q1'.1, q1'.2, q2'.1, q2'.2]); first | done | omega, ?_⟩; first | apply hK | (refine ⟨by simp [go_sem, encDf, q1'.1, q1'.2, q2'.1, q2'.2], ?_⟩; first | apply hK | refine ⟨by simp [go_sem, encDf, q1'.1, q1'.2, q2'.1, q2'.2], hK _ _ ?_⟩)) | refine ⟨.one (.one (.bool false)), by simp [go_sem, encDf, q1'.1, q1'.2, q2'.1, q2'.2], hK _ _ ?_⟩ | refine ⟨ob, ?_⟩ | refine ⟨hK _ ?_, fun h => ?_⟩ | refine ⟨?_, ?_⟩); all_goals ((try apply hK); clear hK K))
     simp [go_sem]
theorem f93 (x y : List Vr) (d e : Int × Int) (h1 : d.1 < x.length) (h2 : d.2 < x.length) (h3 : e.1 < y.length) (h4 : e.2 < y.length) :
  Impl Tryz.prog 93 [.ag (encEq d), .ag (encEq e), .one (.rf [.sl (x.map encV)]), .one (.rf [.sl (y.map encV)])] (.one (.one (.bool (sameE x y d e)))) := by
 have k1 := f91 x d.1 h1
 have k2 := f91 y e.1 h3
 have k3 := f91 x d.2 h2
 have k4 := f91 y e.2 h4
 obtain ⟨⟨a1, a2⟩, ha⟩ : ∃ a, a = nameOf x d.1 := ⟨_, rfl⟩
 obtain ⟨⟨b1, b2⟩, hb⟩ : ∃ a, a = nameOf y e.1 := ⟨_, rfl⟩
 obtain ⟨⟨c1, c2⟩, hc⟩ : ∃ a, a = nameOf x d.2 := ⟨_, rfl⟩
 obtain ⟨⟨d1, d2⟩, hd⟩ : ∃ a, a = nameOf y e.2 := ⟨_, rfl⟩
 have hv : sameE x y d e = (sameV (a1, a2) (b1, b2) && sameV (c1, c2) (d1, d2)) := by unfold sameE; rw [ha, hb, hc, hd]
 rw [<- ha] at k1
 rw [<- hb] at k2
 rw [<- hc] at k3
 rw [<- hd] at k4
 rw [hv]
 clear hv ha hb hc hd
 simp only [encV] at k1 k2 k3 k4
 refine impl_w Tryz.func93 z93 Tryz.ntmps93 (by simp) ?_
 simp only [slotsOf]
 conv => arg 2; reduce
 cases q1 : sameV (a1, a2) (b1, b2) with
 | false =>
   have q1' : ((a1 == b1) && (a2 == b2)) = false := q1
   repeat' first | refine St.go ?_ | (refine Ru.go ?_; intro K hK; simp [go_sem, encEq, q1']; (try simp (disch := omega) only [wx, z_i]); (first | apply hK | ((try refine .inl ?_); refine ⟨_, by (try intro hc); (repeat' first | exact k1 | exact k2 | exact k3 | exact k4 | exact hc | refine And.intro ?_ ?_ | simp [go_sem, encEq, q1']); first | done | omega, ?_⟩; first | apply hK | (refine ⟨by simp [go_sem, encEq, q1'], ?_⟩; first | apply hK | refine ⟨by simp [go_sem, encEq, q1'], hK _ _ ?_⟩)) | refine ⟨.one (.one (.bool false)), by simp [go_sem, encEq, q1'], hK _ _ ?_⟩ | refine ⟨ob, ?_⟩ | refine ⟨hK _ ?_, fun h => ?_⟩ | refine ⟨?_, ?_⟩); all_goals ((try apply hK); clear hK K))
   simp [go_sem]
 | true =>
   have q1' : ((a1 == b1) && (a2 == b2)) = true := q1
   simp only [Bool.and_eq_true] at q1'
   repeat' first | refine St.go ?_ | (refine Ru.go ?_; intro K hK; simp [go_sem, encEq, q1'.1, q1'.2]; (try simp (disch := omega) only [wx, z_i]); (first | apply hK | ((try refine .inl ?_); refine ⟨_, by (try intro hc); (repeat' first | exact k1 | exact k2 | exact k3 | exact k4 | exact hc | refine And.intro ?_ ?_ | simp [go_sem, encEq, q1'.1, q1'.2]); first | done | omega, ?_⟩; first | apply hK | (refine ⟨by simp [go_sem, encEq, q1'.1, q1'.2], ?_⟩; first | apply hK | refine ⟨by simp [go_sem, encEq, q1'.1, q1'.2], hK _ _ ?_⟩)) | refine ⟨.one (.one (.bool false)), by simp [go_sem, encEq, q1'.1, q1'.2], hK _ _ ?_⟩ | refine ⟨ob, ?_⟩ | refine ⟨hK _ ?_, fun h => ?_⟩ | refine ⟨?_, ?_⟩); all_goals ((try apply hK); clear hK K))
   simp [go_sem, sameV]
def agreeB (x y : List Vr) (a b : Dcl) : Bool := decide (a.fields = b.fields) && (eqF (sameD x y) a.diffs b.diffs && eqF (sameE x y) a.equals b.equals)
theorem f46 (a b : Dcl) (x y : List Vr) (hf1 : a.fields.length <= 1000000) (hf2 : b.fields.length <= 1000000) (hd1 : a.diffs.length <= 1000000) (hd2 : b.diffs.length <= 1000000) (he1 : a.equals.length <= 1000000) (he2 : b.equals.length <= 1000000)
  (ha1 : ∀ d ∈ a.diffs, d.x < x.length /\ d.y < x.length) (hb1 : ∀ d ∈ b.diffs, d.x < y.length /\ d.y < y.length) (ha2 : ∀ d ∈ a.equals, d.1 < x.length /\ d.2 < x.length) (hb2 : ∀ d ∈ b.equals, d.1 < y.length /\ d.2 < y.length) :
  Impl Tryz.prog 46 [.ag (encD a), .ag (encD b), .one (.sl (x.map encV)), .one (.sl (y.map encV))] (.one (.one (.bool (agreeB x y a b)))) := by
 have k1 := f88 a.fields b.fields hf1 hf2
 have k2 := f89 a.diffs b.diffs 90 [.rf [.sl (x.map encV)], .rf [.sl (y.map encV)]] (sameD x y) hd1 hd2 (fun d hd e he => f90 x y d e (ha1 d hd).1 (ha1 d hd).2 (hb1 e he).1 (hb1 e he).2)
 have k3 := f92 a.equals b.equals 93 [.rf [.sl (x.map encV)], .rf [.sl (y.map encV)]] (sameE x y) he1 he2 (fun d hd e he => f93 x y d e (ha2 d hd).1 (ha2 d hd).2 (hb2 e he).1 (hb2 e he).2)
 obtain ⟨u, hu⟩ : ∃ u, u = decide (a.fields = b.fields) := ⟨_, rfl⟩
 obtain ⟨v, hv⟩ : ∃ v, v = eqF (sameD x y) a.diffs b.diffs := ⟨_, rfl⟩
 obtain ⟨w, hw⟩ : ∃ w, w = eqF (sameE x y) a.equals b.equals := ⟨_, rfl⟩
 have hA : agreeB x y a b = (u && (v && w)) := by unfold agreeB; rw [hu, hv, hw]
 rw [hA]
 rw [<- hu] at k1
 rw [<- hv] at k2
 rw [<- hw] at k3
 clear hu hv hw hA
 refine impl_w Tryz.func46 z46 Tryz.ntmps46 (by simp) ?_
 simp only [slotsOf]
 conv => arg 2; reduce
 cases u with
 | false =>
   repeat' first | refine St.go ?_ | (refine Ru.go ?_; intro K hK; simp [go_sem, encD, frzL, DV.frz]; (first | apply hK | ((try refine .inl ?_); refine ⟨_, by (try intro hc); (repeat' first | exact k1 | exact k2 | exact k3 | exact hc | refine And.intro ?_ ?_ | simp [go_sem, encD, frzL, DV.frz]); first | done | omega, ?_⟩; first | apply hK | (refine ⟨by simp [go_sem, encD, frzL, DV.frz], ?_⟩; apply hK)) | refine ⟨.one (.one (.bool false)), by simp [go_sem, encD, frzL, DV.frz], hK _ _ ?_⟩ | refine ⟨ob, ?_⟩ | refine ⟨hK _ ?_, fun h => ?_⟩ | refine ⟨?_, ?_⟩); all_goals ((try apply hK); clear hK K))
   simp [go_sem]
 | true =>
   cases v with
   | false =>
     repeat' first | refine St.go ?_ | (refine Ru.go ?_; intro K hK; simp [go_sem, encD, frzL, DV.frz]; (first | apply hK | ((try refine .inl ?_); refine ⟨_, by (try intro hc); (repeat' first | exact k1 | exact k2 | exact k3 | exact hc | refine And.intro ?_ ?_ | simp [go_sem, encD, frzL, DV.frz]); first | done | omega, ?_⟩; first | apply hK | (refine ⟨by simp [go_sem, encD, frzL, DV.frz], ?_⟩; apply hK)) | refine ⟨.one (.one (.bool false)), by simp [go_sem, encD, frzL, DV.frz], hK _ _ ?_⟩ | refine ⟨ob, ?_⟩ | refine ⟨hK _ ?_, fun h => ?_⟩ | refine ⟨?_, ?_⟩); all_goals ((try apply hK); clear hK K))
     simp [go_sem]
   | true =>
     repeat' first | refine St.go ?_ | (refine Ru.go ?_; intro K hK; simp [go_sem, encD, frzL, DV.frz]; (first | apply hK | ((try refine .inl ?_); refine ⟨_, by (try intro hc); (repeat' first | exact k1 | exact k2 | exact k3 | exact hc | refine And.intro ?_ ?_ | simp [go_sem, encD, frzL, DV.frz]); first | done | omega, ?_⟩; first | apply hK | (refine ⟨by simp [go_sem, encD, frzL, DV.frz], ?_⟩; apply hK)) | refine ⟨.one (.one (.bool false)), by simp [go_sem, encD, frzL, DV.frz], hK _ _ ?_⟩ | refine ⟨ob, ?_⟩ | refine ⟨hK _ ?_, fun h => ?_⟩ | refine ⟨?_, ?_⟩); all_goals ((try apply hK); clear hK K))
     simp [go_sem]
theorem find_at {α : Type} {p : α -> Bool} {l : List α} {k : Nat} (hk : k < l.length) (h0 : (l.take k).any p = false) (h1 : p l[k] = true) : l.find? p = some l[k] := by
 rw [List.find?_eq_some_iff_getElem]
 refine ⟨h1, k, hk, rfl, fun j hj => ?_⟩
 rw [List.any_eq_false] at h0
 have := h0 (l[j]'(by omega)) (List.mem_iff_getElem.2 ⟨j, by rw [List.length_take]; omega, by simp⟩)
 simpa using this
theorem find_none {α : Type} {p : α -> Bool} {l : List α} (h : l.any p = false) : l.find? p = none := by
 rw [List.find?_eq_none]
 intro x hx
 rw [List.any_eq_false] at h
 simpa using h x hx
end Go.Av
