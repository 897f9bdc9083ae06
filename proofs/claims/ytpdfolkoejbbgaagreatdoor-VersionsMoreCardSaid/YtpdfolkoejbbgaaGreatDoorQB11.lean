/- Part of a proof by symbolic walks on plain data. -/
import Derived.Test.YtpdfolkoejbbgaaGreatDoorQB10
import Derived.Test.YtpdfolkoejbbgaaGreatDoorQB02
import Derived.Test.YtpdfolkoejbbgaaGreatDoorQF1
import Derived.Test.YtpdfolkoejbbgaaGreatDoorQC0
import Derived.Test.YtpdfolkoejbbgaaGreatDoorQB00
set_option linter.unusedVariables false
set_option linter.unusedSimpArgs false
set_option maxHeartbeats 64000000
namespace Go.Av
open Go Go.RowKit Go.Proofs
set_option maxRecDepth 8000
def atE (s : Int) (a : Inter) (x : Edg) : Bool := x.from_ == s && actEq x.act a
def afterP (t : Tab) (i : Int) (a : Inter) : Option Int := if 0 <= i then match t.pairs[i.toNat]? with
 | some p => (t.old.edges.find? (atE p.1 a)).map fun x => placeB t (x.to, folB t p.2 x)
 | none => none else none
def afterV (t : Tab) (i : Int) (a : Inter) : Int × Bool := match afterP t i a with
 | some k => (max k 0, decide (0 <= k))
 | none => (0, false)
def afterR (t : Tab) (i : Int) (a : Inter) : Int × Bool := match afterP t i a with
 | some k => (max 0 k, true)
 | none => (0, false)
theorem g57 (t : Tab) (hp : t.pairs.length <= 1000000) (q : Int × Int) : Impl Tryz.prog 57 [.one (.sl (t.pairs.map encEq)), .ag (encEq q)] (.one (.one (.int .i64 (placeB t q)))) := by
 have h := f57 t.pairs q hp
 have e : (fun x : Int × Int => q.1 == x.1 && q.2 == x.2) = isP q := by
  funext x
  simp only [isP, Bool.beq_comm]
 rw [e] at h
 exact h
theorem f22 (t : Tab) (i : Int) (a : Inter) (ho : t.old.edges.length <= 1000000) (hn : t.new.edges.length <= 1000000) (hp : t.pairs.length <= 1000000) :
  Impl Tryz.prog 22 [.ag (encTab t), .one (.int .i64 i), .ag (encI a)] (.tup [.one (.int .i64 (afterV t i a).1), .one (.bool (afterV t i a).2)]) := by
 have j1 : ∀ s x, Impl Tryz.prog 47 [.ag (encTab t), .one (.int .i64 s), .ag (encEd x)] (.one (.one (.int .i64 (folB t s x)))) := fun s x => f47 t s x hn
 have j2 := g57 t hp
 simp only [encTab, encG, encEd, encEq, List.cons_append, List.nil_append] at j1
 simp only [encEq] at j2
 refine impl_w Tryz.func22 z22 Tryz.ntmps22 (by simp) ?_
 simp only [slotsOf]
 conv => arg 2; reduce
 by_cases h1 : i < 0
 ·have hF : afterV t i a = (0, false) := by
   have : ¬ 0 <= i := by omega
   simp [afterV, afterP, this]
  rw [hF]
  repeat' first | refine St.go ?_ | ((with_reducible refine z_Y (t := ?_) ?hc (fun h => ?_) (fun h => ?_)); (case hc => rfl); all_goals (try simp [go_sem, encTab, encG, encI, h1] at h); all_goals try omega) | (refine Ru.go ?_; intro K hK; simp [go_sem, encTab, encG, encI, h1]; (try simp (disch := omega) only [z_h, z_i, eq_self, true_and]); (first | apply hK | refine ⟨by first | omega | (simp [z_f, z_g, encTab, encG, encI, h1]; first | done | omega), ?_⟩ | refine ⟨hK _ ?_, fun h => ?_⟩ | refine ⟨?_, ?_⟩); all_goals ((try apply hK); clear hK K))
  simp [go_sem]
 ·have h1' : 0 <= i := by omega
  by_cases h2 : i < t.pairs.length
  ·have hl : i.toNat < t.pairs.length := by omega
   obtain ⟨⟨p1, p2⟩, hpi⟩ : ∃ p, t.pairs[i.toNat] = p := ⟨_, rfl⟩
   have hA : afterP t i a = (t.old.edges.find? (atE p1 a)).map fun x => placeB t (x.to, folB t p2 x) := by
    unfold afterP
    rw [if_pos h1', List.getElem?_eq_getElem hl, hpi]
   have n2 : ¬ (t.pairs.length : Int) <= i := by omega
   repeat' first | refine St.go ?_ | ((with_reducible refine z_Y (t := ?_) ?hc (fun h => ?_) (fun h => ?_)); (case hc => rfl); all_goals (try simp [go_sem, encTab, encG, encI, encEq, h1, n2, hl, hpi] at h); all_goals try omega) | (refine Ru.go ?_; intro K hK; simp [go_sem, encTab, encG, encI, encEq, h1, n2, hl, hpi]; (try simp (disch := omega) only [z_h, z_i, eq_self, true_and]); (first | apply hK | refine ⟨by first | omega | (simp [z_f, z_g, encTab, encG, encI, encEq, h1, n2, hl, hpi]; first | done | omega), ?_⟩ | refine ⟨hK _ ?_, fun h => ?_⟩ | refine ⟨?_, ?_⟩); all_goals ((try apply hK); clear hK K))
   refine z_k (fun n e => ∃ k : Nat, k + n = t.old.edges.length /\ (t.old.edges.take k).any (atE p1 a) = false /\ e = [(30, .sv (.one (.int .i64 k))), (29, .sv (.one (.int .i64 t.old.edges.length))), (28, .sv (.one (.sl (t.old.edges.map encEd)))), (8, .sv (.one (.bx (encEq (p1, p2))))), (5, .sv (.one (.bx (encI a)))), (3, .sv (.one (.bx (encTab t))))]) t.old.edges.length _ ⟨0, by simp, by simp, rfl⟩ (by simp [go_sem, encTab, encG, encEq, encI]) ?_
   rintro n e ⟨k, hk, h0, rfl⟩
   by_cases hlt : k < t.old.edges.length
   ·obtain ⟨x, hx⟩ : ∃ x, t.old.edges[k] = x := ⟨_, rfl⟩
    have k1 := j1 p2 x
    have k2 := j2 (x.to, folB t p2 x)
    obtain ⟨v, hv⟩ : ∃ v, folB t p2 x = v := ⟨_, rfl⟩
    obtain ⟨w, hw⟩ : ∃ w, placeB t (x.to, v) = w := ⟨_, rfl⟩
    rw [hv] at k1 k2
    simp only [hw] at k2
    cases c1 : atE p1 a x with
    | true =>
      have hf := find_at (p := atE p1 a) hlt h0 (by rw [hx]; exact c1)
      rw [hx] at hf
      have hR : afterV t i a = (max w 0, decide (0 <= w)) := by
       unfold afterV
       rw [hA, hf]
       simp [hv, hw]
      simp only [atE, actEq, Bool.and_eq_true, beq_iff_eq] at c1
      obtain ⟨u1, ⟨u2, u3⟩, u4⟩ := c1
      rw [hR]
      rw [u1, u2, u3, u4] at k1
      repeat' first | refine St.go ?_ | ((with_reducible refine z_Y (t := ?_) ?hc (fun h => ?_) (fun h => ?_)); (case hc => rfl); all_goals (try simp [go_sem, hlt, hx, encTab, encG, encEq, encEd, encI, u1, u2, u3, u4] at h); all_goals try omega) | (refine Ru.go ?_; intro K hK; simp [go_sem, hlt, hx, encTab, encG, encEq, encEd, encI, u1, u2, u3, u4]; (try simp (disch := omega) only [z_h, z_i, eq_self, true_and]); (first | apply hK | ((try refine .inl ?_); refine ⟨_, by (try intro hc); (repeat' first | exact k1 | exact k2 | exact hc | refine And.intro ?_ ?_ | simp [go_sem, hlt, hx, encTab, encG, encEq, encEd, encI, u1, u2, u3, u4]); first | done | omega, ?_⟩; first | apply hK | (refine ⟨by simp [go_sem, hlt, hx, encTab, encG, encEq, encEd, encI, u1, u2, u3, u4], ?_⟩; first | apply hK | refine ⟨by simp [go_sem, hlt, hx, encTab, encG, encEq, encEd, encI, u1, u2, u3, u4], hK _ _ ?_⟩)) | refine ⟨by first | omega | (simp [z_f, z_g, hlt, hx, encTab, encG, encEq, encEd, encI, u1, u2, u3, u4]; first | done | omega), ?_⟩ | refine ⟨hK _ ?_, fun h => ?_⟩ | refine ⟨?_, ?_⟩); all_goals ((try apply hK); clear hK K))
      simp [go_sem]
    | false =>
      have c2 : (x.from_ == p1 && (x.act.from_ == a.from_ && (x.act.to == a.to && x.act.label == a.label))) = false := by
       rw [<- c1]
       simp only [atE, actEq, Bool.and_assoc]
      repeat' first | refine St.go ?_ | ((with_reducible refine z_Y (t := ?_) ?hc (fun h => ?_) (fun h => ?_)); (case hc => rfl); all_goals (try simp [go_sem, hlt, hx, encTab, encG, encEq, encEd, encI, c2] at h); all_goals try omega) | (refine Ru.go ?_; intro K hK; simp [go_sem, hlt, hx, encTab, encG, encEq, encEd, encI, c2]; (try simp (disch := omega) only [z_h, z_i, eq_self, true_and]); (first | apply hK | ((try refine .inl ?_); refine ⟨_, by (try intro hc); (repeat' first | exact k1 | exact k2 | exact hc | refine And.intro ?_ ?_ | simp [go_sem, hlt, hx, encTab, encG, encEq, encEd, encI, c2]); first | done | omega, ?_⟩; first | apply hK | (refine ⟨by simp [go_sem, hlt, hx, encTab, encG, encEq, encEd, encI, c2], ?_⟩; first | apply hK | refine ⟨by simp [go_sem, hlt, hx, encTab, encG, encEq, encEd, encI, c2], hK _ _ ?_⟩)) | refine ⟨by first | omega | (simp [z_f, z_g, hlt, hx, encTab, encG, encEq, encEd, encI, c2]; first | done | omega), ?_⟩ | refine ⟨hK _ ?_, fun h => ?_⟩ | refine ⟨?_, ?_⟩); all_goals ((try apply hK); clear hK K))
      refine z_j (n - 1) _ (by omega) ⟨k + 1, by omega, ?_, rfl⟩ ?_
      ·rw [any_succ hlt, h0, hx, c1]; rfl
      ·simp [go_sem, encTab, encG, encEq, encI]
   ·have hkl : t.old.edges.take k = t.old.edges := List.take_of_length_le (by omega)
    rw [hkl] at h0
    have hf := find_none h0
    have hR : afterV t i a = (0, false) := by
     unfold afterV
     rw [hA, hf]
     rfl
    rw [hR]
    repeat' first | refine St.go ?_ | ((with_reducible refine z_Y (t := ?_) ?hc (fun h => ?_) (fun h => ?_)); (case hc => rfl); all_goals (try simp [go_sem, hlt] at h); all_goals try omega) | (refine Ru.go ?_; intro K hK; simp [go_sem, hlt]; (try simp (disch := omega) only [z_h, z_i, eq_self, true_and]); (first | apply hK | refine ⟨by first | omega | (simp [z_f, z_g, hlt]; first | done | omega), ?_⟩ | refine ⟨hK _ ?_, fun h => ?_⟩ | refine ⟨?_, ?_⟩); all_goals ((try apply hK); clear hK K))
    simp [go_sem]
  ·have hF : afterV t i a = (0, false) := by
    have : t.pairs[i.toNat]? = none := List.getElem?_eq_none (by omega)
    simp [afterV, afterP, this]
   have n2 : (t.pairs.length : Int) <= i := by omega
   rw [hF]
   repeat' first | refine St.go ?_ | ((with_reducible refine z_Y (t := ?_) ?hc (fun h => ?_) (fun h => ?_)); (case hc => rfl); all_goals (try simp [go_sem, encTab, encG, encI, h1, n2] at h); all_goals try omega) | (refine Ru.go ?_; intro K hK; simp [go_sem, encTab, encG, encI, h1, n2]; (try simp (disch := omega) only [z_h, z_i, eq_self, true_and]); (first | apply hK | refine ⟨by first | omega | (simp [z_f, z_g, encTab, encG, encI, h1, n2]; first | done | omega), ?_⟩ | refine ⟨hK _ ?_, fun h => ?_⟩ | refine ⟨?_, ?_⟩); all_goals ((try apply hK); clear hK K))
   simp [go_sem]
theorem f23 (t : Tab) (i : Int) (a : Inter) (ho : t.old.edges.length <= 1000000) (hn : t.new.edges.length <= 1000000) (hp : t.pairs.length <= 1000000) (hlab : ∀ x ∈ t.old.edges, 0 <= x.act.label /\ x.act.label < t.labels.length) :
  Impl Tryz.prog 23 [.ag (encTab t), .one (.int .i64 i), .ag (encI a)] (.tup [.one (.int .i64 (afterR t i a).1), .one (.bool (afterR t i a).2)]) := by
 have j1 : ∀ s, ∀ x ∈ t.old.edges, Impl Tryz.prog 53 [.ag (encTab t), .one (.int .i64 s), .ag (encEd x)] (.one (.one (.int .i64 (folB t s x)))) := fun s x hx => f53 t s x hn (hlab x hx).1 (hlab x hx).2
 have j2 : ∀ q : Int × Int, Impl Tryz.prog 54 [.one (.sl (t.pairs.map encEq)), .ag (encEq q)] (.one (.one (.int .i64 (placeB t q)))) := fun q => f54 t.pairs q hp
 simp only [encTab, encG, encEd, encEq, List.cons_append, List.nil_append] at j1
 simp only [encEq] at j2
 refine impl_w Tryz.func23 z23 Tryz.ntmps23 (by simp) ?_
 simp only [slotsOf]
 conv => arg 2; reduce
 by_cases h1 : i < 0
 ·have hF : afterR t i a = (0, false) := by
   have : ¬ 0 <= i := by omega
   simp [afterR, afterP, this]
  rw [hF]
  repeat' first | refine St.go ?_ | ((with_reducible refine z_Y (t := ?_) ?hc (fun h => ?_) (fun h => ?_)); (case hc => rfl); all_goals (try simp [go_sem, encTab, encG, encI, h1] at h); all_goals try omega) | (refine Ru.go ?_; intro K hK; simp [go_sem, encTab, encG, encI, h1]; (try simp (disch := omega) only [z_h, z_i, eq_self, true_and]); (first | apply hK | refine ⟨by first | omega | (simp [z_f, z_g, encTab, encG, encI, h1]; first | done | omega), ?_⟩ | refine ⟨hK _ ?_, fun h => ?_⟩ | refine ⟨?_, ?_⟩); all_goals ((try apply hK); clear hK K))
  simp [go_sem]
 ·have h1' : 0 <= i := by omega
  by_cases h2 : i < t.pairs.length
  ·have hl : i.toNat < t.pairs.length := by omega
   obtain ⟨⟨p1, p2⟩, hpi⟩ : ∃ p, t.pairs[i.toNat] = p := ⟨_, rfl⟩
   have hA : afterP t i a = (t.old.edges.find? (atE p1 a)).map fun x => placeB t (x.to, folB t p2 x) := by
    unfold afterP
    rw [if_pos h1', List.getElem?_eq_getElem hl, hpi]
   have n2 : ¬ (t.pairs.length : Int) <= i := by omega
   repeat' first | refine St.go ?_ | ((with_reducible refine z_Y (t := ?_) ?hc (fun h => ?_) (fun h => ?_)); (case hc => rfl); all_goals (try simp [go_sem, encTab, encG, encI, encEq, h1, n2, hl, hpi] at h); all_goals try omega) | (refine Ru.go ?_; intro K hK; simp [go_sem, encTab, encG, encI, encEq, h1, n2, hl, hpi]; (try simp (disch := omega) only [z_h, z_i, eq_self, true_and]); (first | apply hK | refine ⟨by first | omega | (simp [z_f, z_g, encTab, encG, encI, encEq, h1, n2, hl, hpi]; first | done | omega), ?_⟩ | refine ⟨hK _ ?_, fun h => ?_⟩ | refine ⟨?_, ?_⟩); all_goals ((try apply hK); clear hK K))
   refine z_k (fun n e => ∃ k : Nat, k + n = t.old.edges.length /\ (t.old.edges.take k).any (atE p1 a) = false /\ e = [(9, .sv (.one (.int .i64 k))), (8, .sv (.one (.bx (encEq (p1, p2))))), (5, .sv (.one (.bx (encI a)))), (3, .sv (.one (.bx (encTab t))))]) t.old.edges.length _ ⟨0, by simp, by simp, rfl⟩ (by simp [go_sem, encTab, encG, encEq, encI]) ?_
   rintro n e ⟨k, hk, h0, rfl⟩
   by_cases hlt : k < t.old.edges.length
   ·obtain ⟨x, hx⟩ : ∃ x, t.old.edges[k] = x := ⟨_, rfl⟩
    have k1 := j1 p2 x (hx ▸ List.getElem_mem hlt)
    have k2 := j2 (x.to, folB t p2 x)
    obtain ⟨v, hv⟩ : ∃ v, folB t p2 x = v := ⟨_, rfl⟩
    obtain ⟨w, hw⟩ : ∃ w, placeB t (x.to, v) = w := ⟨_, rfl⟩
    rw [hv] at k1 k2
    simp only [hw] at k2
    cases c1 : atE p1 a x with
    | true =>
      have hf := find_at (p := atE p1 a) hlt h0 (by rw [hx]; exact c1)
      rw [hx] at hf
      have hR : afterR t i a = (max 0 w, true) := by
       unfold afterR
       rw [hA, hf]
       simp [hv, hw]
      simp only [atE, actEq, Bool.and_eq_true, beq_iff_eq] at c1
      obtain ⟨u1, ⟨u2, u3⟩, u4⟩ := c1
      rw [hR]
      rw [u1, u2, u3, u4] at k1
      repeat' first | refine St.go ?_ | ((with_reducible refine z_Y (t := ?_) ?hc (fun h => ?_) (fun h => ?_)); (case hc => rfl); all_goals (try simp [go_sem, hlt, hx, encTab, encG, encEq, encEd, encI, u1, u2, u3, u4] at h); all_goals try omega) | (refine Ru.go ?_; intro K hK; simp [go_sem, hlt, hx, encTab, encG, encEq, encEd, encI, u1, u2, u3, u4]; (try simp (disch := omega) only [z_h, z_i, eq_self, true_and]); (first | apply hK | ((try refine .inl ?_); refine ⟨_, by (try intro hc); (repeat' first | exact k1 | exact k2 | exact hc | refine And.intro ?_ ?_ | simp [go_sem, hlt, hx, encTab, encG, encEq, encEd, encI, u1, u2, u3, u4]); first | done | omega, ?_⟩; first | apply hK | (refine ⟨by simp [go_sem, hlt, hx, encTab, encG, encEq, encEd, encI, u1, u2, u3, u4], ?_⟩; first | apply hK | refine ⟨by simp [go_sem, hlt, hx, encTab, encG, encEq, encEd, encI, u1, u2, u3, u4], hK _ _ ?_⟩)) | refine ⟨by first | omega | (simp [z_f, z_g, hlt, hx, encTab, encG, encEq, encEd, encI, u1, u2, u3, u4]; first | done | omega), ?_⟩ | refine ⟨hK _ ?_, fun h => ?_⟩ | refine ⟨?_, ?_⟩); all_goals ((try apply hK); clear hK K))
      simp [go_sem]
    | false =>
      have c2 : (x.from_ == p1 && (x.act.from_ == a.from_ && (x.act.to == a.to && x.act.label == a.label))) = false := by
       rw [<- c1]
       simp only [atE, actEq, Bool.and_assoc]
      repeat' first | refine St.go ?_ | ((with_reducible refine z_Y (t := ?_) ?hc (fun h => ?_) (fun h => ?_)); (case hc => rfl); all_goals (try simp [go_sem, hlt, hx, encTab, encG, encEq, encEd, encI, c2] at h); all_goals try omega) | (refine Ru.go ?_; intro K hK; simp [go_sem, hlt, hx, encTab, encG, encEq, encEd, encI, c2]; (try simp (disch := omega) only [z_h, z_i, eq_self, true_and]); (first | apply hK | ((try refine .inl ?_); refine ⟨_, by (try intro hc); (repeat' first | exact k1 | exact k2 | exact hc | refine And.intro ?_ ?_ | simp [go_sem, hlt, hx, encTab, encG, encEq, encEd, encI, c2]); first | done | omega, ?_⟩; first | apply hK | (refine ⟨by simp [go_sem, hlt, hx, encTab, encG, encEq, encEd, encI, c2], ?_⟩; first | apply hK | refine ⟨by simp [go_sem, hlt, hx, encTab, encG, encEq, encEd, encI, c2], hK _ _ ?_⟩)) | refine ⟨by first | omega | (simp [z_f, z_g, hlt, hx, encTab, encG, encEq, encEd, encI, c2]; first | done | omega), ?_⟩ | refine ⟨hK _ ?_, fun h => ?_⟩ | refine ⟨?_, ?_⟩); all_goals ((try apply hK); clear hK K))
      refine z_j (n - 1) _ (by omega) ⟨k + 1, by omega, ?_, rfl⟩ ?_
      ·rw [any_succ hlt, h0, hx, c1]; rfl
      ·simp [go_sem, encTab, encG, encEq, encI]
   ·have hkl : t.old.edges.take k = t.old.edges := List.take_of_length_le (by omega)
    rw [hkl] at h0
    have hf := find_none h0
    have hR : afterR t i a = (0, false) := by
     unfold afterR
     rw [hA, hf]
     rfl
    rw [hR]
    repeat' first | refine St.go ?_ | ((with_reducible refine z_Y (t := ?_) ?hc (fun h => ?_) (fun h => ?_)); (case hc => rfl); all_goals (try simp [go_sem, hlt, encTab, encG] at h); all_goals try omega) | (refine Ru.go ?_; intro K hK; simp [go_sem, hlt, encTab, encG]; (try simp (disch := omega) only [z_h, z_i, eq_self, true_and]); (first | apply hK | refine ⟨by first | omega | (simp [z_f, z_g, hlt, encTab, encG]; first | done | omega), ?_⟩ | refine ⟨hK _ ?_, fun h => ?_⟩ | refine ⟨?_, ?_⟩); all_goals ((try apply hK); clear hK K))
    simp [go_sem]
  ·have hF : afterR t i a = (0, false) := by
    have : t.pairs[i.toNat]? = none := List.getElem?_eq_none (by omega)
    simp [afterR, afterP, this]
   have n2 : (t.pairs.length : Int) <= i := by omega
   rw [hF]
   repeat' first | refine St.go ?_ | ((with_reducible refine z_Y (t := ?_) ?hc (fun h => ?_) (fun h => ?_)); (case hc => rfl); all_goals (try simp [go_sem, encTab, encG, encI, h1, n2] at h); all_goals try omega) | (refine Ru.go ?_; intro K hK; simp [go_sem, encTab, encG, encI, h1, n2]; (try simp (disch := omega) only [z_h, z_i, eq_self, true_and]); (first | apply hK | refine ⟨by first | omega | (simp [z_f, z_g, encTab, encG, encI, h1, n2]; first | done | omega), ?_⟩ | refine ⟨hK _ ?_, fun h => ?_⟩ | refine ⟨?_, ?_⟩); all_goals ((try apply hK); clear hK K))
   simp [go_sem]
end Go.Av
namespace Go.Av
open Go Go.RowKit Go.Proofs
set_option maxRecDepth 8000
deriving instance DecidableEq for Dcl
theorem f21 (t : Tab) : Impl Tryz.prog 21 [.ag (encTab t)] (.one (.ag (encTab t))) := by
 refine impl_w Tryz.func21 z21 Tryz.ntmps21 (by simp) ?_
 simp only [slotsOf]
 conv => arg 2; reduce
 repeat' first | refine St.go ?_ | (refine Ru.go ?_; intro K hK; simp [go_sem, encTab, encG]; (first | apply hK | refine ⟨by first | omega | (simp [z_f, z_g, encTab, encG]; first | done | omega), ?_⟩ | refine ⟨hK _ ?_, fun h => ?_⟩ | refine ⟨?_, ?_⟩); all_goals ((try apply hK); clear hK K))
 simp [go_sem, encTab, encG]
def few31 (g : Glob) : Bool := fewG g && (decide (g.states <= 15) && decide ((allF g.decls).length <= 24))
theorem few_flds {g : Glob} (h : fewG g = true) : g.decls.length <= 60 /\ ∀ d ∈ g.decls, d.fields.length <= 100 /\ d.diffs.length <= 100 /\ d.equals.length <= 100 := by
 simp only [fewG, fewD, Bool.and_eq_true, decide_eq_true_eq] at h
 obtain ⟨_, h1, h2⟩ := h
 refine ⟨h1, fun d hd => ?_⟩
 obtain ⟨k, hk, he⟩ := List.mem_iff_getElem.1 hd
 have h3 := units_succ hk
 rw [he] at h3
 have h4 : units g.decls (k + 1) <= units g.decls g.decls.length := by
  have : ∀ n, k + 1 + n <= g.decls.length -> units g.decls (k + 1) <= units g.decls (k + 1 + n) := by
   intro n
   induction n with
   | zero => intro _; exact Nat.le_refl _
   | succ n ih =>
     intro hn
     have a1 := ih (by omega)
     have a2 := units_succ (l := g.decls) (k := k + 1 + n) (by omega)
     rw [<- Nat.add_assoc] 
     omega
  have h5 := this (g.decls.length - (k + 1)) (by omega)
  rwa [show k + 1 + (g.decls.length - (k + 1)) = g.decls.length by omega] at h5
 omega
theorem f17 (g : Glob) (hl : g.decls.length <= 1000000000000000) (hp : ∀ d ∈ g.decls, d.fields.length <= 1000000000000000 /\ d.diffs.length <= 1000000000000000 /\ d.equals.length <= 1000000000000000) : Impl Tryz.prog 17 [.ag (encG g)] (.one (.one (.bool (few31 g)))) := by
 have k1 := f10 g hl hp
 simp only [encG] at k1
 refine impl_w Tryz.func17 z17 Tryz.ntmps17 (by simp) ?_
 simp only [slotsOf]
 conv => arg 2; reduce
 cases hf : fewG g with
 | false =>
   have hF : few31 g = false := by simp [few31, hf]
   rw [hF]
   rw [hf] at k1
   repeat' first | refine St.go ?_ | (refine Ru.go ?_; intro K hK; simp [go_sem, encG]; (first | apply hK | ((try refine .inl ?_); refine ⟨_, by (try intro hc); (repeat' first | exact k1 | exact hc | refine And.intro ?_ ?_ | simp [go_sem, encG]); first | done | omega, ?_⟩; first | apply hK | (refine ⟨by simp [go_sem, encG], ?_⟩; first | apply hK | refine ⟨by simp [go_sem, encG], hK _ _ ?_⟩)) | refine ⟨.one (.one (.bool false)), by simp [go_sem, encG], hK _ _ ?_⟩ | refine ⟨by first | omega | (simp [z_f, z_g, encG]; first | done | omega), ?_⟩ | refine ⟨hK _ ?_, fun h => ?_⟩ | refine ⟨?_, ?_⟩); all_goals ((try apply hK); clear hK K))
   simp [go_sem]
 | true =>
   obtain ⟨q1, q2⟩ := few_flds hf
   have k2 := f41 g.decls (by omega) fun d hd => by have := (q2 d hd).1; omega
   rw [hf] at k1
   obtain ⟨n, hn⟩ : ∃ n, (allF g.decls).length = n := ⟨_, rfl⟩
   have hF : few31 g = (decide (g.states <= 15) && decide ((n : Int) <= 24)) := by
    simp only [few31, hf, hn, Bool.true_and]
    congr 1
    rw [Bool.eq_iff_iff]
    simp
    omega
   rw [hF]
   rw [hn] at k2
   clear hF hn
   by_cases h1 : g.states <= 15
   ·skip
    repeat' first | refine St.go ?_ | (refine Ru.go ?_; intro K hK; simp [go_sem, encG, h1]; (first | apply hK | ((try refine .inl ?_); refine ⟨_, by (try intro hc); (repeat' first | exact k1 | exact k2 | exact hc | refine And.intro ?_ ?_ | simp [go_sem, encG, h1]); first | done | omega, ?_⟩; first | apply hK | (refine ⟨by simp [go_sem, encG, h1], ?_⟩; first | apply hK | refine ⟨by simp [go_sem, encG, h1], hK _ _ ?_⟩)) | refine ⟨.one (.one (.bool false)), by simp [go_sem, encG, h1], hK _ _ ?_⟩ | refine ⟨by first | omega | (simp [z_f, z_g, encG, h1]; first | done | omega), ?_⟩ | refine ⟨hK _ ?_, fun h => ?_⟩ | refine ⟨?_, ?_⟩); all_goals ((try apply hK); clear hK K))
    simp [go_sem, h1]
   ·skip
    repeat' first | refine St.go ?_ | (refine Ru.go ?_; intro K hK; simp [go_sem, encG, h1]; (first | apply hK | ((try refine .inl ?_); refine ⟨_, by (try intro hc); (repeat' first | exact k1 | exact k2 | exact hc | refine And.intro ?_ ?_ | simp [go_sem, encG, h1]); first | done | omega, ?_⟩; first | apply hK | (refine ⟨by simp [go_sem, encG, h1], ?_⟩; first | apply hK | refine ⟨by simp [go_sem, encG, h1], hK _ _ ?_⟩)) | refine ⟨.one (.one (.bool false)), by simp [go_sem, encG, h1], hK _ _ ?_⟩ | refine ⟨by first | omega | (simp [z_f, z_g, encG, h1]; first | done | omega), ?_⟩ | refine ⟨hK _ ?_, fun h => ?_⟩ | refine ⟨?_, ?_⟩); all_goals ((try apply hK); clear hK K))
    simp [go_sem, h1]
end Go.Av
namespace Go.Av
open Go Go.RowKit Go.Proofs
set_option maxRecDepth 8000
end Go.Av
namespace Go.Av
open Go Go.RowKit Go.Proofs
set_option maxRecDepth 8000
deriving instance DecidableEq for Glob
end Go.Av
namespace Go.Av
open Go Go.RowKit Go.Proofs
set_option maxRecDepth 8000
deriving instance DecidableEq for Tab
def MedG (g : Glob) : Prop := g.decls.length <= 1000000 /\ (∀ d ∈ g.decls, d.fields.length <= 1000000 /\ d.diffs.length <= 1000000 /\ d.equals.length <= 1000000) /\ g.roles.length <= 1000000 /\ g.edges.length <= 1000000 /\ g.timeouts.length <= 1000000
end Go.Av
namespace Go.Av
open Go Go.RowKit Go.Proofs
set_option maxRecDepth 8000
theorem frz_encD (x : Dcl) : frzL (encD x) = encD x := by simp [encD, frzL, DV.frz]
def isOw : DV -> Bool
 | .ow _ _ => true
 | .bx _ => true
 | _ => false
theorem hasOw_cons (x : DV) (l : List DV) : hasOw (x :: l) = (isOw x || hasOw l) := by
 cases x <;> simp [hasOw, isOw]
theorem f43 (g : Glob) (h : MedG g) : Impl Tryz.prog 43 [.ag (encG g)] (.one (.ag (encG g))) := by
 obtain ⟨hd, hd2, hr, he, ht⟩ := h
 have k1 := f80 g.roles hr
 have k2 := f81 g.edges he
 have k3 := f82 g.timeouts ht
 refine impl_w Tryz.func43 z43 Tryz.ntmps43 (by simp) ?_
 simp only [slotsOf]
 conv => arg 2; reduce
 repeat' first | refine St.go ?_ | ((with_reducible refine z_Y (t := ?_) ?hc (fun h => ?_) (fun h => ?_)); (case hc => rfl); all_goals (try simp [go_sem, encG] at h); all_goals try omega) | (refine Ru.go ?_; intro K hK; simp [go_sem, encG]; (try simp (disch := omega) only [z_h, z_i, eq_self, true_and]); (first | apply hK | ((try refine .inl ?_); refine ⟨_, by (try intro hc); (repeat' first | exact k1 | exact k2 | exact k3 | exact hc | refine And.intro ?_ ?_ | simp [go_sem, encG]); first | done | omega, ?_⟩; first | apply hK | (refine ⟨by simp [go_sem, encG], ?_⟩; first | apply hK | refine ⟨by simp [go_sem, encG], hK _ _ ?_⟩)) | refine ⟨by first | omega | (simp [z_f, z_g, encG]; first | done | omega), ?_⟩ | refine ⟨hK _ ?_, fun h => ?_⟩ | refine ⟨?_, ?_⟩); all_goals ((try apply hK); clear hK K))
 refine z_k (fun n e => ∃ (k : Nat) (D : DV), k + n = g.decls.length /\ ((k = 0 /\ D = .nil) \/ (0 < k /\ D = .ow 5 ((g.decls.take k).map encD))) /\ e = [(23, .sv (.one (.int .i64 k))), (22, .sv (.one (.int .i64 g.decls.length))), (21, .sv (.one (.sl (g.decls.map encD)))), (3, .sv (.one (.bx [.str g.name, .sl (g.roles.map encS), D, .int .i64 g.states, .int .i64 g.start, .int .i64 g.end_, .sl (g.edges.map encEd), .sl (g.timeouts.map encT)]))), (2, .sv (.one (.bx [.str ⟨#[]⟩, .nil, .nil, .int .i64 0, .int .i64 0, .int .i64 0, .nil, .nil])))]) g.decls.length _ ⟨0, .nil, by simp, .inl ⟨rfl, rfl⟩, rfl⟩ (by simp [go_sem]) ?_
 rintro n e ⟨k, D, hk, hD, rfl⟩
 by_cases hlt : k < g.decls.length
 ·obtain ⟨d, hdk⟩ : ∃ d, g.decls[k] = d := ⟨_, rfl⟩
  obtain ⟨q1, q2, q3⟩ := hd2 d (hdk ▸ List.getElem_mem hlt)
  have j1 := f83 d.fields q1
  have j2 := f84 d.diffs q2
  have j3 := f85 d.equals q3
  have hap : ∀ l : List Dcl, l.length <= 1000000 -> z_f 5 96 (l.map encD) [encD d] := by
   intro l hl
   refine ⟨?_, ?_, by omega, ?_, ?_⟩
   ·intro e he; rw [List.mem_singleton.1 he]; rfl
   ·intro e he; rw [List.mem_singleton.1 he]; rfl
   ·simp only [List.length_map, List.length_singleton, maxLen]; omega
   ·simp only [List.length_map, List.length_singleton]; omega
  have hap0 := hap [] (by simp)
  have hap1 := hap (g.decls.take k) (by simp; omega)
  have hz : encD d = [.str d.name, .sl (d.fields.map encF), .int .i64 d.first, .sl (d.diffs.map encDf), .sl (d.equals.map encEq)] := rfl
  rw [hz] at hap0 hap1
  rw [List.map_take] at hap1
  simp only [List.map_nil] at hap0
  have hsucc : (g.decls.take (k + 1)).map encD = (g.decls.take k).map encD ++ [encD d] := by
   rw [List.take_succ_eq_append_getElem hlt, hdk, List.map_append]; rfl
  rcases hD with ⟨hk0, rfl⟩ | ⟨hk0, rfl⟩
  ·skip
   repeat' first | refine St.go ?_ | ((with_reducible refine z_Y (t := ?_) ?hc (fun h => ?_) (fun h => ?_)); (case hc => rfl); all_goals (try simp [go_sem, hlt, hdk, encD, hap0] at h); all_goals try omega) | (refine Ru.go ?_; intro K hK; simp [go_sem, hlt, hdk, encD, hap0]; (try simp (disch := omega) only [z_h, z_i, eq_self, true_and]); (first | apply hK | ((try refine .inl ?_); refine ⟨_, by (try intro hc); (repeat' first | exact j1 | exact j2 | exact j3 | exact hc | refine And.intro ?_ ?_ | simp [go_sem, hlt, hdk, encD, hap0]); first | done | omega, ?_⟩; first | apply hK | (refine ⟨by simp [go_sem, hlt, hdk, encD, hap0], ?_⟩; first | apply hK | refine ⟨by simp [go_sem, hlt, hdk, encD, hap0], hK _ _ ?_⟩)) | refine ⟨by first | omega | (simp [z_f, z_g, hlt, hdk, encD, hap0]; first | done | omega), ?_⟩ | refine ⟨hK _ ?_, fun h => ?_⟩ | refine ⟨?_, ?_⟩); all_goals ((try apply hK); clear hK K))
   subst hk0
   refine z_j (n - 1) _ (by omega) ⟨1, _, by omega, .inr ⟨by omega, rfl⟩, rfl⟩ ?_
   simp [go_sem, hsucc, encD]
  ·skip
   repeat' first | refine St.go ?_ | ((with_reducible refine z_Y (t := ?_) ?hc (fun h => ?_) (fun h => ?_)); (case hc => rfl); all_goals (try simp [go_sem, hlt, hdk, encD, hap1] at h); all_goals try omega) | (refine Ru.go ?_; intro K hK; simp [go_sem, hlt, hdk, encD, hap1]; (try simp (disch := omega) only [z_h, z_i, eq_self, true_and]); (first | apply hK | ((try refine .inl ?_); refine ⟨_, by (try intro hc); (repeat' first | exact j1 | exact j2 | exact j3 | exact hc | refine And.intro ?_ ?_ | simp [go_sem, hlt, hdk, encD, hap1]); first | done | omega, ?_⟩; first | apply hK | (refine ⟨by simp [go_sem, hlt, hdk, encD, hap1], ?_⟩; first | apply hK | refine ⟨by simp [go_sem, hlt, hdk, encD, hap1], hK _ _ ?_⟩)) | refine ⟨by first | omega | (simp [z_f, z_g, hlt, hdk, encD, hap1]; first | done | omega), ?_⟩ | refine ⟨hK _ ?_, fun h => ?_⟩ | refine ⟨?_, ?_⟩); all_goals ((try apply hK); clear hK K))
   refine z_j (n - 1) _ (by omega) ⟨k + 1, _, by omega, .inr ⟨by omega, rfl⟩, rfl⟩ ?_
   simp [go_sem, hsucc, encD]
 ·have hkl : g.decls.take k = g.decls := List.take_of_length_le (by omega)
  rw [hkl] at hD
  rcases hD with ⟨hk0, rfl⟩ | ⟨hk0, rfl⟩
  ·have hnil : g.decls = [] := List.eq_nil_of_length_eq_zero (by omega)
   repeat' first | refine St.go ?_ | ((with_reducible refine z_Y (t := ?_) ?hc (fun h => ?_) (fun h => ?_)); (case hc => rfl); all_goals (try simp [go_sem, hlt, hasOw_cons, isOw, Bool.or_true, Bool.true_or, Bool.or_false] at h); all_goals try omega) | (refine Ru.go ?_; intro K hK; simp [go_sem, hlt, hasOw_cons, isOw, Bool.or_true, Bool.true_or, Bool.or_false]; (try simp (disch := omega) only [z_h, z_i, eq_self, true_and]); (first | apply hK | refine ⟨by first | omega | (simp [z_f, z_g, hlt, hasOw_cons, isOw, Bool.or_true, Bool.true_or, Bool.or_false, DV.flat]; first | done | omega), ?_⟩ | refine ⟨hK _ ?_, fun h => ?_⟩ | refine ⟨?_, ?_⟩); all_goals ((try apply hK); clear hK K))
   simp [go_sem, encG, hnil]
  ·skip
   repeat' first | refine St.go ?_ | ((with_reducible refine z_Y (t := ?_) ?hc (fun h => ?_) (fun h => ?_)); (case hc => rfl); all_goals (try simp [go_sem, hlt, hasOw_cons, isOw, Bool.or_true, Bool.true_or] at h); all_goals try omega) | (refine Ru.go ?_; intro K hK; simp [go_sem, hlt, hasOw_cons, isOw, Bool.or_true, Bool.true_or]; (try simp (disch := omega) only [z_h, z_i, eq_self, true_and]); (first | apply hK | refine ⟨by first | omega | (simp [z_f, z_g, hlt, hasOw_cons, isOw, Bool.or_true, Bool.true_or, DV.flat]; first | done | omega), ?_⟩ | refine ⟨hK _ ?_, fun h => ?_⟩ | refine ⟨?_, ?_⟩); all_goals ((try apply hK); clear hK K))
   simp [go_sem, encG, frz_encD]
end Go.Av
namespace Go.Av
open Go Go.RowKit Go.Proofs
theorem und61 : Tryz.prog.underlying 61 = some (.array 2 3) := by kernel_rfl
theorem und3 : Tryz.prog.underlying 3 = some (.int .i64) := by kernel_rfl
theorem size3 : sizeT Tryz.prog 3 = some 1 := by kernel_rfl
theorem kind3 : kindT Tryz.prog 3 = some false := by kernel_rfl
theorem key61 (a b : Int) : KeyT Tryz.prog 61 [.ki .i64 a, .ki .i64 b] := by
 intro em w
 have h1 : ∀ (n : Nat) (x : Int), (Instr.checkKey em (n + 1) 3 (.int .i64 x)).run Tryz.prog w = .ok () w := by
  intro n x
  simp [Instr.checkKey, run_underlying und3]
 show (Instr.checkKey em (9998 + 1 + 1) 61 _).run Tryz.prog w = _
 rw [Instr.checkKey]
 simp only [KV.key, List.map_cons, List.map_nil, KV.val, Sem.run_bind, run_underlying und61, Result.andThen_ok, Std.Legacy.Range.forIn_eq_forIn_range', Std.Legacy.Range.size, Nat.sub_zero, Nat.add_sub_cancel, Nat.div_one, List.range'_succ, List.range'_zero, List.forIn_cons, List.forIn_nil, run_sizeOf size3, part, run_isAgg kind3, Bool.false_eq_true, if_false]
 simp [h1]
end Go.Av
namespace Go.Av
abbrev Pr := Int × Int
def addP (ps : List Pr) (q : Pr) : List Pr := if q ∈ ps then ps else ps ++ [q]
def addAll : List Pr -> List Pr -> List Pr
 | ps, [] => ps
 | ps, q :: qs => addAll (addP ps q) qs
def bfs (succ : Pr -> List Pr) : Nat -> Nat -> List Pr -> List Pr
 | 0, _, ps => ps
 | n + 1, i, ps => match ps[i]? with
   | none => ps
   | some p => bfs succ n (i + 1) (addAll ps (succ p))
theorem mem_addP {ps : List Pr} {q x : Pr} : x ∈ addP ps q ↔ x ∈ ps \/ x = q := by
 unfold addP
 split
 ·rename_i h
  constructor
  ·exact .inl
  ·rintro (h' | rfl)
   ·exact h'
   ·exact h
 ·simp
theorem nodup_addP {ps : List Pr} {q : Pr} (h : ps.Nodup) : (addP ps q).Nodup := by
 unfold addP
 split
 ·exact h
 ·rename_i hq
  rw [List.nodup_append]
  refine ⟨h, by simp, ?_⟩
  intro a ha b hb
  simp only [List.mem_singleton] at hb
  subst hb
  rintro rfl
  exact hq ha
theorem addP_pre (ps : List Pr) (q : Pr) : ∃ l, addP ps q = ps ++ l := by
 unfold addP
 split
 ·exact ⟨[], by simp⟩
 ·exact ⟨[q], rfl⟩
theorem addAll_pre : ∀ (ps qs : List Pr), ∃ l, addAll ps qs = ps ++ l
 | ps, [] => ⟨[], by simp [addAll]⟩
 | ps, q :: qs => by
   obtain ⟨l1, h1⟩ := addP_pre ps q
   obtain ⟨l2, h2⟩ := addAll_pre (addP ps q) qs
   exact ⟨l1 ++ l2, by rw [addAll, h2, h1, List.append_assoc]⟩
theorem mem_addAll {x : Pr} : ∀ {ps qs : List Pr}, x ∈ addAll ps qs ↔ x ∈ ps \/ x ∈ qs
 | ps, [] => by simp [addAll]
 | ps, q :: qs => by
   rw [addAll, mem_addAll, mem_addP]
   simp [or_assoc]
theorem nodup_addAll : ∀ {ps qs : List Pr}, ps.Nodup -> (addAll ps qs).Nodup
 | _, [], h => h
 | _, _ :: _, h => nodup_addAll (ps := addP _ _) (nodup_addP h)
theorem addAll_append : ∀ (ps qs rs : List Pr), addAll ps (qs ++ rs) = addAll (addAll ps qs) rs
 | _, [], _ => rfl
 | ps, q :: qs, rs => by simp [addAll, addAll_append]
theorem nodup_lt : ∀ (n : Nat) (l : List Nat), l.Nodup -> (∀ x ∈ l, x < n) -> l.length <= n
 | 0, l, _, h => by
   cases l with
   | nil => simp
   | cons x l => exact absurd (h x (by simp)) (by omega)
 | n + 1, l, hn, h => by
   by_cases hm : n ∈ l
   ·have h1 := List.length_erase_of_mem hm
    have h2 := nodup_lt n (l.erase n) (hn.erase n) (fun x hx => by
     have := h x (List.mem_of_mem_erase hx)
     have hne : x ≠ n := by rintro rfl; exact (List.Nodup.not_mem_erase hn) hx
     omega)
    omega
   ·have := nodup_lt n l hn (fun x hx => by
     have := h x hx
     have hne : x ≠ n := by rintro rfl; exact hm hx
     omega)
    omega
def inBox (a b : Nat) (p : Pr) : Prop := 0 <= p.1 /\ p.1 < a /\ -1 <= p.2 /\ p.2 < b
theorem box_len {a b : Nat} {l : List Pr} (hn : l.Nodup) (h : ∀ p ∈ l, inBox a b p) : l.length <= a * (b + 1) := by
 have hinj : (l.map fun p => p.1.toNat * (b + 1) + (p.2 + 1).toNat).Nodup := by
  rw [List.Nodup, List.pairwise_map]
  refine List.Pairwise.imp_of_mem ?_ hn
  intro x y hx hy hne he
  obtain ⟨x1, x2, x3, x4⟩ := h x hx
  obtain ⟨y1, y2, y3, y4⟩ := h y hy
  apply hne
  have e1 : x.1.toNat = y.1.toNat := by
   have q1 : (x.1.toNat * (b + 1) + (x.2 + 1).toNat) / (b + 1) = x.1.toNat := by
    rw [Nat.mul_comm, Nat.mul_add_div (by omega), Nat.div_eq_of_lt (by omega)]; rfl
   have q2 : (y.1.toNat * (b + 1) + (y.2 + 1).toNat) / (b + 1) = y.1.toNat := by
    rw [Nat.mul_comm, Nat.mul_add_div (by omega), Nat.div_eq_of_lt (by omega)]; rfl
   rw [<- q1, <- q2, he]
  rw [e1] at he
  have e2 : (x.2 + 1).toNat = (y.2 + 1).toNat := by omega
  exact Prod.ext (by omega) (by omega)
 have := nodup_lt (a * (b + 1)) _ hinj (fun x hx => by
  obtain ⟨p, hp, rfl⟩ := List.mem_map.1 hx
  obtain ⟨p1, p2, p3, p4⟩ := h p hp
  have h1 : p.1.toNat + 1 <= a := by omega
  have h2 := Nat.mul_le_mul_right (b + 1) h1
  rw [Nat.add_mul] at h2
  omega)
 simpa using this
def closedTo (succ : Pr -> List Pr) (i : Nat) (ps : List Pr) : Prop := ∀ p ∈ ps.take i, ∀ q ∈ succ p, q ∈ ps
theorem closed_step {succ : Pr -> List Pr} {i : Nat} {ps : List Pr} {p : Pr} (h : closedTo succ i ps) (hp : ps[i]? = some p) : closedTo succ (i + 1) (addAll ps (succ p)) := by
 obtain ⟨l, hl⟩ := addAll_pre ps (succ p)
 obtain ⟨hi, rfl⟩ := List.getElem?_eq_some_iff.1 hp
 have ht : (addAll ps (succ ps[i])).take (i + 1) = ps.take i ++ [ps[i]] := by
  rw [hl, List.take_append_of_le_length (by omega), List.take_succ_eq_append_getElem hi]
 intro x hx q hq
 rw [ht] at hx
 rw [mem_addAll]
 simp only [List.mem_append, List.mem_singleton] at hx
 rcases hx with hx | rfl
 ·exact .inl (h x hx q hq)
 ·exact .inr hq
theorem bfs_keeps {succ : Pr -> List Pr} {C : Pr -> Prop} (hC : ∀ p, C p -> ∀ q ∈ succ p, C q) : ∀ (n i : Nat) (ps : List Pr), (∀ p ∈ ps, C p) -> ∀ p ∈ bfs succ n i ps, C p
 | 0, _, _, h => h
 | n + 1, i, ps, h => by
   simp only [bfs]
   split
   ·exact h
   ·rename_i p hp
    refine bfs_keeps hC n (i + 1) _ ?_
    intro q hq
    rcases mem_addAll.1 hq with hq | hq
    ·exact h q hq
    ·exact hC p (h p (List.mem_of_getElem? hp)) q hq
theorem bfs_nodup {succ : Pr -> List Pr} : ∀ (n i : Nat) (ps : List Pr), ps.Nodup -> (bfs succ n i ps).Nodup
 | 0, _, _, h => h
 | n + 1, i, ps, h => by
   simp only [bfs]
   split
   ·exact h
   ·exact bfs_nodup n (i + 1) _ (nodup_addAll h)
theorem bfs_pre {succ : Pr -> List Pr} : ∀ (n i : Nat) (ps : List Pr), ∃ l, bfs succ n i ps = ps ++ l
 | 0, _, _ => ⟨[], by simp [bfs]⟩
 | n + 1, i, ps => by
   simp only [bfs]
   split
   ·exact ⟨[], by simp⟩
   ·rename_i p hp
    obtain ⟨l1, h1⟩ := addAll_pre ps (succ p)
    obtain ⟨l2, h2⟩ := bfs_pre (succ := succ) n (i + 1) (addAll ps (succ p))
    exact ⟨l1 ++ l2, by rw [h2, h1, List.append_assoc]⟩
theorem bfs_closed {succ : Pr -> List Pr} {a b : Nat} (hb : ∀ p, inBox a b p -> ∀ q ∈ succ p, inBox a b q) : ∀ (n i : Nat) (ps : List Pr), ps.Nodup -> (∀ p ∈ ps, inBox a b p) -> closedTo succ i ps -> i <= ps.length -> a * (b + 1) <= i + n ->
  ∀ p ∈ bfs succ n i ps, ∀ q ∈ succ p, q ∈ bfs succ n i ps
 | 0, i, ps, h1, h2, h3, h4, h5 => by
   have := box_len h1 h2
   intro p hp q hq
   simp only [bfs] at hp ⊢
   refine h3 p ?_ q hq
   rw [List.take_of_length_le (by omega)]
   exact hp
 | n + 1, i, ps, h1, h2, h3, h4, h5 => by
   simp only [bfs]
   split
   ·rename_i hp
    have hle := List.getElem?_eq_none_iff.1 hp
    intro p hp q hq
    refine h3 p ?_ q hq
    rw [List.take_of_length_le (by omega)]
    exact hp
   ·rename_i p hp
    obtain ⟨hi, hpe⟩ := List.getElem?_eq_some_iff.1 hp
    obtain ⟨l, hl⟩ := addAll_pre ps (succ p)
    refine bfs_closed hb n (i + 1) _ (nodup_addAll h1) ?_ (closed_step h3 hp) ?_ (by omega)
    ·intro q hq
     rcases mem_addAll.1 hq with hq | hq
     ·exact h2 q hq
     ·exact hb p (h2 p (List.mem_of_getElem? hp)) q hq
    ·rw [hl, List.length_append]; omega
def idxP (ps : List Pr) (q : Pr) : Int := (ps.idxOf q : Nat)
def rowOf (succ : Pr -> List Pr) (ps : List Pr) (p : Pr) : List Int := (succ p).map (idxP ps)
theorem idxP_pre {ps l : List Pr} {q : Pr} (h : q ∈ ps) : idxP (ps ++ l) q = idxP ps q := by
 unfold idxP
 rw [List.idxOf_append, if_pos h]
theorem idxP_get {ps : List Pr} {q : Pr} (h : q ∈ ps) : 0 <= idxP ps q /\ (idxP ps q).toNat < ps.length /\ ps[(idxP ps q).toNat]? = some q := by
 unfold idxP
 have hlt := List.idxOf_lt_length_of_mem h
 refine ⟨by omega, by simpa using hlt, ?_⟩
 rw [Int.toNat_natCast, List.getElem?_eq_getElem hlt, List.getElem_idxOf]
def badRow (good : List Bool) (l : List Int) : Bool := l.any fun k => !(good[k.toNat]?.getD false)
def firstBad (good : List Bool) (bh : List (List Int)) : Option Nat := bh.zipIdx.findSome? fun x => if (good[x.2]?.getD false) && badRow good x.1 then some x.2 else none
def del (bh : List (List Int)) : Nat -> List Bool -> List Bool
 | 0, g => g
 | n + 1, g => match firstBad g bh with
   | none => g
   | some i => del bh n (g.set i false)
theorem firstBad_some {good : List Bool} {bh : List (List Int)} {i : Nat} (h : firstBad good bh = some i) : good[i]? = some true /\ ∃ l, bh[i]? = some l /\ badRow good l = true := by
 unfold firstBad at h
 obtain ⟨x, hx, he⟩ := List.exists_of_findSome?_eq_some h
 split at he
 ·rename_i hc
  injection he with he
  subst he
  simp only [Bool.and_eq_true] at hc
  have := List.mem_zipIdx_iff_getElem?.1 hx
  refine ⟨?_, x.1, this, hc.2⟩
  cases hg : good[x.2]? with
  | none => rw [hg] at hc; simp at hc
  | some b => rw [hg] at hc; simp at hc; rw [hc.1]
 ·cases he
def trues (g : List Bool) : Nat := g.countP id
theorem trues_set : ∀ {g : List Bool} {i : Nat}, g[i]? = some true -> trues (g.set i false) + 1 = trues g
 | [], _, h => by simp at h
 | b :: g, 0, h => by
   simp at h
   subst h
   simp [trues]
 | b :: g, i + 1, h => by
   have := trues_set (g := g) (i := i) (by simpa using h)
   unfold trues at this ⊢
   rw [List.set_cons_succ, List.countP_cons, List.countP_cons]
   omega
theorem del_len (bh : List (List Int)) : ∀ (n : Nat) (g : List Bool), (del bh n g).length = g.length
 | 0, _ => rfl
 | n + 1, g => by
   simp only [del]
   split
   ·rfl
   ·rw [del_len bh n]; simp
theorem del_keep (bh : List (List Int)) (C : Nat -> Prop) (hC : ∀ i, C i -> ∀ l, bh[i]? = some l -> ∀ k ∈ l, C k.toNat) : ∀ (n : Nat) (g : List Bool), (∀ i, C i -> g[i]? = some true) -> ∀ i, C i -> (del bh n g)[i]? = some true
 | 0, _, h => h
 | n + 1, g, h => by
   simp only [del]
   split
   ·exact h
   ·rename_i k hf
    obtain ⟨hk, l, hl, hbad⟩ := firstBad_some hf
    refine del_keep bh C hC n _ ?_
    intro i hi
    have hne : k ≠ i := by
     rintro rfl
     unfold badRow at hbad
     rw [List.any_eq_true] at hbad
     obtain ⟨z, hz, hz2⟩ := hbad
     rw [h _ (hC k hi l hl z hz)] at hz2
     simp at hz2
    rw [List.getElem?_set, if_neg hne]
    exact h i hi
end Go.Av
namespace Go.Av
open Go Go.RowKit Go.Proofs
set_option maxRecDepth 8000
theorem any_firstB {α : Type} {p : α -> Bool} {l : List α} : decide ((0 : Int) <= firstB p l) = l.any p := by
 unfold firstB
 cases h : l.findIdx? p with
 | none =>
   have : l.any p = false := by
    rw [List.any_eq_false]
    intro x hx
    have := List.findIdx?_eq_none_iff.1 h x hx
    simp [this]
   simp [this]
 | some i =>
   have : l.any p = true := by
    obtain ⟨hi, h1, _⟩ := List.findIdx?_eq_some_iff_getElem.1 h
    exact List.any_eq_true.2 ⟨_, List.getElem_mem hi, h1⟩
   simp [this]
theorem f49 (a b : Glob) (x y : DV) (g : List Bool) (k : Int) (h0 : 0 <= k) (h1 : k.toNat < g.length) : Impl Tryz.prog 49 [.one (.int .i64 k), .one (.rf (encG a ++ (encG b ++ [x, y, .sl (g.map encBl)])))] (.one (.one (.bool (!(g[k.toNat]?.getD false))))) := by
 obtain ⟨c, hb⟩ : ∃ c, g[k.toNat] = c := ⟨_, rfl⟩
 rw [List.getElem?_eq_getElem h1, hb, Option.getD_some]
 refine impl_w Tryz.func49 z49 Tryz.ntmps49 (by simp) ?_
 simp only [slotsOf]
 conv => arg 2; reduce
 repeat' first | refine St.go ?_ | (refine Ru.go ?_; intro K hK; simp [go_sem, encG, h0, h1, hb, encBl]; (first | apply hK | refine ⟨by first | omega | (simp [z_f, z_g, encG, h0, h1, hb, encBl]; first | done | omega), ?_⟩ | refine ⟨hK _ ?_, fun h => ?_⟩ | refine ⟨?_, ?_⟩); all_goals ((try apply hK); clear hK K))
 simp [go_sem]
theorem f94 (l : List Int) (g : FuncId) (caps : List DV) (p : Int -> Bool) (hl : l.length <= 1000000) (hg : ∀ x ∈ l, Impl Tryz.prog g (.one (.int .i64 x) :: caps.map .one) (.one (.one (.bool (p x))))) :
  Impl Tryz.prog 94 [.one (.sl (l.map encN)), .one (.fn g caps)] (.one (.one (.int .i64 (firstB p l)))) := by
 refine impl_w Tryz.func94 z94 Tryz.ntmps94 (by simp) ?_
 simp only [slotsOf]
 conv => arg 2; reduce
 repeat' first | refine St.go ?_ | ((with_reducible refine z_Y (t := ?_) ?hc (fun h => ?_) (fun h => ?_)); (case hc => rfl); all_goals (try simp [go_sem] at h); all_goals try omega) | (refine Ru.go ?_; intro K hK; simp [go_sem]; (try simp (disch := omega) only [z_h, z_i, eq_self, true_and]); (first | apply hK | refine ⟨by first | omega | (simp [z_f, z_g]; first | done | omega), ?_⟩ | refine ⟨hK _ ?_, fun h => ?_⟩ | refine ⟨?_, ?_⟩); all_goals ((try apply hK); clear hK K))
 refine z_k (fun n e => ∃ k : Nat, k + n = l.length /\ (l.take k).any p = false /\ e = [(8, .sv (.one (.int .i64 k))), (7, .sv (.one (.int .i64 l.length))), (1, .sv (.one (.fn g caps))), (0, .sv (.one (.sl (l.map encN))))]) l.length _ ⟨0, by simp, by simp, rfl⟩ (by simp [go_sem]) ?_
 rintro n e ⟨k, hk, h0, rfl⟩
 by_cases hlt : k < l.length
 ·have hgs := hg l[k] (List.getElem_mem hlt)
  cases hx : p l[k] with
  | true =>
    have hf := firstB_at hlt h0 hx
    rw [hx] at hgs
    repeat' first | refine St.go ?_ | ((with_reducible refine z_Y (t := ?_) ?hc (fun h => ?_) (fun h => ?_)); (case hc => rfl); all_goals (try simp [go_sem, hlt, encN] at h); all_goals try omega) | (refine Ru.go ?_; intro K hK; simp [go_sem, hlt, encN]; (try simp (disch := omega) only [z_h, z_i, eq_self, true_and]); (first | apply hK | ((try refine .inl ?_); refine ⟨_, by (try intro hc); (repeat' first | exact hgs | exact hc | refine And.intro ?_ ?_ | simp [go_sem, hlt, encN]); first | done | omega, ?_⟩; first | apply hK | (refine ⟨by simp [go_sem, hlt, encN], ?_⟩; first | apply hK | refine ⟨by simp [go_sem, hlt, encN], hK _ _ ?_⟩)) | refine ⟨by first | omega | (simp [z_f, z_g, hlt, encN]; first | done | omega), ?_⟩ | refine ⟨hK _ ?_, fun h => ?_⟩ | refine ⟨?_, ?_⟩); all_goals ((try apply hK); clear hK K))
    simp [go_sem, hf]
  | false =>
    rw [hx] at hgs
    repeat' first | refine St.go ?_ | ((with_reducible refine z_Y (t := ?_) ?hc (fun h => ?_) (fun h => ?_)); (case hc => rfl); all_goals (try simp [go_sem, hlt, encN] at h); all_goals try omega) | (refine Ru.go ?_; intro K hK; simp [go_sem, hlt, encN]; (try simp (disch := omega) only [z_h, z_i, eq_self, true_and]); (first | apply hK | ((try refine .inl ?_); refine ⟨_, by (try intro hc); (repeat' first | exact hgs | exact hc | refine And.intro ?_ ?_ | simp [go_sem, hlt, encN]); first | done | omega, ?_⟩; first | apply hK | (refine ⟨by simp [go_sem, hlt, encN], ?_⟩; first | apply hK | refine ⟨by simp [go_sem, hlt, encN], hK _ _ ?_⟩)) | refine ⟨by first | omega | (simp [z_f, z_g, hlt, encN]; first | done | omega), ?_⟩ | refine ⟨hK _ ?_, fun h => ?_⟩ | refine ⟨?_, ?_⟩); all_goals ((try apply hK); clear hK K))
    refine z_j (n - 1) _ (by omega) ⟨k + 1, by omega, ?_, rfl⟩ ?_
    ·rw [any_succ hlt, h0, hx]; rfl
    ·simp [go_sem]
 ·have hkl : l.take k = l := List.take_of_length_le (by omega)
  rw [hkl] at h0
  have hf := firstB_none h0
  repeat' first | refine St.go ?_ | ((with_reducible refine z_Y (t := ?_) ?hc (fun h => ?_) (fun h => ?_)); (case hc => rfl); all_goals (try simp [go_sem, hlt] at h); all_goals try omega) | (refine Ru.go ?_; intro K hK; simp [go_sem, hlt]; (try simp (disch := omega) only [z_h, z_i, eq_self, true_and]); (first | apply hK | refine ⟨by first | omega | (simp [z_f, z_g, hlt]; first | done | omega), ?_⟩ | refine ⟨hK _ ?_, fun h => ?_⟩ | refine ⟨?_, ?_⟩); all_goals ((try apply hK); clear hK K))
  simp [go_sem, hf]
theorem f48 (l : List Int) (g : FuncId) (caps : List DV) (p : Int -> Bool) (hl : l.length <= 1000000) (hg : ∀ x ∈ l, Impl Tryz.prog g (.one (.int .i64 x) :: caps.map .one) (.one (.one (.bool (p x))))) :
  Impl Tryz.prog 48 [.one (.sl (l.map encN)), .one (.fn g caps)] (.one (.one (.bool (l.any p)))) := by
 have k1 := f94 l g caps p hl hg
 rw [<- any_firstB]
 refine impl_w Tryz.func48 z48 Tryz.ntmps48 (by simp) ?_
 simp only [slotsOf]
 conv => arg 2; reduce
 repeat' first | refine St.go ?_ | (refine Ru.go ?_; intro K hK; simp [go_sem]; (first | apply hK | ((try refine .inl ?_); refine ⟨_, by (try intro hc); (repeat' first | exact k1 | exact hc | refine And.intro ?_ ?_ | simp [go_sem]); first | done | omega, ?_⟩; first | apply hK | (refine ⟨by simp [go_sem], ?_⟩; first | apply hK | refine ⟨by simp [go_sem], hK _ _ ?_⟩)) | refine ⟨by first | omega | (simp [z_f, z_g]; first | done | omega), ?_⟩ | refine ⟨hK _ ?_, fun h => ?_⟩ | refine ⟨?_, ?_⟩); all_goals ((try apply hK); clear hK K))
 simp [go_sem]
end Go.Av
namespace Go.Av
open Go Go.RowKit Go.Proofs
set_option maxRecDepth 8000
theorem shape_map {α β : Type} {f : α -> List DV} {g : β -> List DV} {z : Nat} (hf : ∀ x, (f x).length = z) (hg : ∀ x, (g x).length = z) {l : List α} {m : List β} (h : m.length = l.length) : Shape (.ow z (l.map f)) (.ow z (m.map g)) := by
 refine ⟨fun i el he => ?_, fun u => ?_, fun els he => ?_⟩
 ·simp only [DV.elAt, List.getElem?_map, Option.map_eq_some_iff] at he ⊢
  obtain ⟨x, hx, rfl⟩ := he
  have hi : i < m.length := by rw [h]; exact (List.getElem?_eq_some_iff.1 hx).1
  exact ⟨_, ⟨m[i], List.getElem?_eq_getElem hi, rfl⟩, by rw [hf, hg]⟩
 ·cases u with
  | slice a n c => cases a <;> rfl
  | pointer a => cases a <;> rfl
  | _ => rfl
 ·simp only [DV.elsOf, Option.some.injEq] at he ⊢
  subst he
  refine ⟨_, rfl, by simp [h], fun z' hz' e he => ?_⟩
  obtain ⟨y, hy, rfl⟩ := List.mem_map.1 he
  rw [hg]
  cases l with
  | nil => simp at h; subst h; cases hy
  | cons x l => rw [<- hz' (f x) (by simp), hf]
theorem shape_ints {l m : List Int} (h : m.length = l.length) : Shape (.ow 1 (l.map encN)) (.ow 1 (m.map encN)) := shape_map (f := encN) (g := encN) (fun _ => rfl) (fun _ => rfl) h
theorem closed_ints (l : List Int) : Closed (.ow 1 (l.map encN)) := by
 refine .ow _ _ fun e he d hd => ?_
 obtain ⟨x, _, rfl⟩ := List.mem_map.1 he
 simp only [encN, List.mem_singleton] at hd
 subst hd
 exact .int _ _
def swapI (l : List Int) (i k : Nat) : List Int := (l.set i (l.getD k 0)).set k (l.getD i 0)
theorem swapI_len (l : List Int) (i k : Nat) : (swapI l i k).length = l.length := by simp [swapI]
def swapN (l : List Int) (i k : Nat) : Nat -> List Int
 | 0 => l
 | n + 1 => swapI (swapN l i k n) (i + n) (k + n)
theorem swapN_len (l : List Int) (i k : Nat) : ∀ n, (swapN l i k n).length = l.length
 | 0 => rfl
 | n + 1 => by rw [swapN, swapI_len, swapN_len l i k n]
theorem f145 (l : List Int) (hl : l.length <= 1000000) (i k n : Nat) (hi : i + n <= l.length) (hk : k + n <= l.length) (g : FuncId) (caps : List DV) :
  ImplM Tryz.prog 145 (.ow 1 (l.map encN)) [.one (.int .i64 i), .one (.int .i64 k), .one (.int .i64 n), .one (.fn g caps)] (.ow 1 ((swapN l i k n).map encN)) := by
 refine implM_intro Tryz.func145 z145.b rfl z145.r z145.n Tryz.ntmps145 z145.d (shape_ints (swapN_len _ _ _ _)) (closed_ints _) (by simp) (by simp) fun v0 => ?_
 simp only [slotsOf]
 conv => arg 2; reduce
 repeat' first | refine St.go ?_ | ((with_reducible refine z_Y (t := ?_) ?hc (fun h => ?_) (fun h => ?_)); (case hc => rfl); all_goals (try simp [go_sem] at h); all_goals try omega) | (refine Ru.go ?_; intro K hK; simp [go_sem]; (try simp (disch := omega) only [z_h, z_i, eq_self, true_and]); (first | apply hK | refine ⟨by first | omega | (simp [z_f, z_g]; first | done | omega), ?_⟩ | refine ⟨hK _ ?_, fun h => ?_⟩ | refine ⟨?_, ?_⟩); all_goals ((try apply hK); clear hK K))
 refine z_k (fun q e => ∃ j : Nat, j + q = n /\ e = [(10, .sv (.one (.int .i64 j))), (1000000, .eqv 0 v0), (0, .sv (.one (.ow 1 ((swapN l i k j).map encN)))), (1, .sv (.one (.int .i64 i))), (2, .sv (.one (.int .i64 k))), (3, .sv (.one (.int .i64 n)))]) n _ ⟨0, by simp, rfl⟩ (by simp [go_sem, swapN]) ?_
 rintro q e ⟨j, hj, rfl⟩
 have hD2 : swapN l i k (j + 1) = swapI (swapN l i k j) (i + j) (k + j) := rfl
 have hDl := swapN_len l i k j
 obtain ⟨D, hD⟩ : ∃ D, D = swapN l i k j := ⟨_, rfl⟩
 rw [<- hD] at hD2 hDl ⊢
 by_cases hlt : j < n
 ·have b1 : i + j < D.length := by omega
  have b2 : k + j < D.length := by omega
  obtain ⟨D1, hD1⟩ : ∃ D1, D1 = D.set (i + j) D[k + j] := ⟨_, rfl⟩
  obtain ⟨D2, hDD⟩ : ∃ D2, D2 = swapN l i k (j + 1) := ⟨_, rfl⟩
  have hl1 : D1.length = l.length := by rw [hD1, List.length_set, hDl]
  have hs2 : D1.set (k + j) D[i + j] = D2 := by
   rw [hDD, hD2, hD1, swapI, List.getD_eq_getElem?_getD, List.getD_eq_getElem?_getD, List.getElem?_eq_getElem b1, List.getElem?_eq_getElem b2]
   rfl
  obtain ⟨u, hu⟩ : ∃ u, u = D[i + j] := ⟨_, rfl⟩
  obtain ⟨v, hv⟩ : ∃ v, v = D[k + j] := ⟨_, rfl⟩
  rw [<- hv] at hD1
  rw [<- hu] at hs2
  have hset1 : (D.map encN).set (i + j) [.int .i64 v] = D1.map encN := by rw [show [DV.int .i64 v] = encN v from rfl, <- List.map_set, hD1]
  have hset2 : (D1.map encN).set (k + j) [.int .i64 u] = D2.map encN := by rw [show [DV.int .i64 u] = encN u from rfl, <- List.map_set, hs2]
  have c1 : ((i : Int) + j).toNat = i + j := by omega
  have c2 : ((k : Int) + j).toNat = k + j := by omega
  have p1 : (0 : Int) <= (i : Int) + j := by omega
  have p2 : (0 : Int) <= (k : Int) + j := by omega
  have g1 : D[i + j]? = some u := by rw [List.getElem?_eq_getElem b1, hu]
  have g2 : D[k + j]? = some v := by rw [List.getElem?_eq_getElem b2, hv]
  obtain ⟨v', g3⟩ : ∃ v', D1[k + j]? = some v' := ⟨_, List.getElem?_eq_getElem (by omega)⟩
  repeat' first | refine St.go ?_ | ((with_reducible refine z_Y (t := ?_) ?hc (fun h => ?_) (fun h => ?_)); (case hc => rfl); all_goals (try simp [go_sem, hlt, hDl, hl1, encN, c1, c2, g1, g2, g3, hset1, hset2, p1, p2] at h); all_goals try omega) | (refine Ru.go ?_; intro K hK; simp [go_sem, hlt, hDl, hl1, encN, c1, c2, g1, g2, g3, hset1, hset2, p1, p2]; (try simp (disch := omega) only [z_h, z_i, eq_self, true_and]); (first | apply hK | refine ⟨by first | omega | (simp [z_f, z_g, hlt, hDl, hl1, encN, c1, c2, g1, g2, g3, hset1, hset2, p1, p2]; first | done | omega), ?_⟩ | refine ⟨hK _ ?_, fun h => ?_⟩ | refine ⟨?_, ?_⟩); all_goals ((try apply hK); clear hK K))
  refine z_j (n - (j + 1)) _ (by omega) ⟨j + 1, by omega, rfl⟩ ?_
  rw [<- hDD]
  simp [go_sem, encN, hset1, hset2]
 ·have hjn : j = n := by omega
  subst hjn
  repeat' first | refine St.go ?_ | ((with_reducible refine z_Y (t := ?_) ?hc (fun h => ?_) (fun h => ?_)); (case hc => rfl); all_goals (try simp [go_sem] at h); all_goals try omega) | (refine Ru.go ?_; intro K hK; simp [go_sem]; (try simp (disch := omega) only [z_h, z_i, eq_self, true_and]); (first | apply hK | refine ⟨by first | omega | (simp [z_f, z_g]; first | done | omega), ?_⟩ | refine ⟨hK _ ?_, fun h => ?_⟩ | refine ⟨?_, ?_⟩); all_goals ((try apply hK); clear hK K))
  simp [go_sem, endsM, hD]
end Go.Av
namespace Go.Av
open Go Go.RowKit Go.Proofs
theorem swapI_mid (p w s : List Int) (x y : Int) : swapI (p ++ x :: (w ++ y :: s)) p.length (p.length + 1 + w.length) = p ++ y :: (w ++ x :: s) := by
 unfold swapI
 have h1 : (p ++ x :: (w ++ y :: s)).getD (p.length + 1 + w.length) 0 = y := by
  rw [List.getD_eq_getElem?_getD, List.getElem?_append_right (by omega), show p.length + 1 + w.length - p.length = w.length + 1 by omega, List.getElem?_cons_succ, List.getElem?_append_right (by omega)]
  simp
 have h2 : (p ++ x :: (w ++ y :: s)).getD p.length 0 = x := by
  rw [List.getD_eq_getElem?_getD, List.getElem?_append_right (by omega)]
  simp
 rw [h1, h2, List.set_append_right _ _ (by omega)]
 simp only [Nat.sub_self, List.set_cons_zero]
 rw [List.set_append_right _ _ (by omega), show p.length + 1 + w.length - p.length = w.length + 1 by omega, List.set_cons_succ, List.set_append_right _ _ (by omega)]
 simp
theorem swapN_mid : ∀ (n : Nat) (p u w v s : List Int), u.length = n -> v.length = n -> swapN (p ++ (u ++ (w ++ (v ++ s)))) p.length (p.length + n + w.length) n = p ++ (v ++ (w ++ (u ++ s)))
 | 0, p, u, w, v, s, hu, hv => by
   have e1 := List.eq_nil_of_length_eq_zero hu
   have e2 := List.eq_nil_of_length_eq_zero hv
   subst e1 e2
   rfl
 | n + 1, p, u, w, v, s, hu, hv => by
   obtain ⟨u', x, rfl⟩ : ∃ u' x, u = u' ++ [x] := by
    rcases List.eq_nil_or_concat u with h | ⟨a, b, h⟩
    ·subst h; simp at hu
    ·exact ⟨a, b, by simpa using h⟩
   obtain ⟨v', y, rfl⟩ : ∃ v' y, v = v' ++ [y] := by
    rcases List.eq_nil_or_concat v with h | ⟨a, b, h⟩
    ·subst h; simp at hv
    ·exact ⟨a, b, by simpa using h⟩
   simp only [List.length_append, List.length_singleton] at hu hv
   have ih := swapN_mid n p u' (x :: w) v' (y :: s) (by omega) (by omega)
   simp only [List.length_cons] at ih
   have e0 : p ++ (u' ++ [x] ++ (w ++ (v' ++ [y] ++ s))) = p ++ (u' ++ (x :: w ++ (v' ++ y :: s))) := by simp
   have e1 : p.length + (n + 1) + w.length = p.length + n + (w.length + 1) := by omega
   rw [swapN, e0, e1, ih]
   have h2 := swapI_mid (p ++ v') (w ++ u') s x y
   have e2 : p ++ (v' ++ (x :: w ++ (u' ++ y :: s))) = p ++ v' ++ x :: (w ++ u' ++ y :: s) := by simp
   rw [e2]
   have e3 : p.length + n = (p ++ v').length := by simp; omega
   have e4 : p.length + n + (w.length + 1) + n = (p ++ v').length + 1 + (w ++ u').length := by simp; omega
   rw [e4, e3, h2]
   simp
def rotF : Nat -> List Int -> Nat -> Nat -> Nat -> List Int
 | 0, l, _, _, _ => l
 | n + 1, l, m, i, j => if i = j then swapN l (m - i) m i else if j < i then rotF n (swapN l (m - i) m j) m (i - j) j else rotF n (swapN l (m - i) (m + j - i) i) m i (j - i)
theorem rotF_ok : ∀ (n : Nat) (p x y s : List Int) (m i j : Nat), x.length = i -> y.length = j -> m = p.length + i -> 0 < i -> 0 < j -> i + j <= n -> rotF n (p ++ (x ++ (y ++ s))) m i j = p ++ (y ++ (x ++ s))
 | 0, p, x, y, s, m, i, j, _, _, _, h1, h2, h3 => by omega
 | n + 1, p, x, y, s, m, i, j, hx, hy, hm, hi, hj, hn => by
   rw [rotF]
   split
   ·rename_i e
    have := swapN_mid i p x [] y s hx (by omega)
    simp only [List.length_nil, Nat.add_zero, List.nil_append] at this
    rw [show m - i = p.length by omega, hm]
    exact this
   ·split
    ·rename_i h1 h2
     obtain ⟨x1, x2, rfl, e1, e2⟩ : ∃ x1 x2, x = x1 ++ x2 /\ x1.length = j /\ x2.length = i - j := ⟨x.take j, x.drop j, (List.take_append_drop _ _).symm, by rw [List.length_take]; omega, by rw [List.length_drop]; omega⟩
     have h3 := swapN_mid j p x1 x2 y s e1 hy
     have e3 : p ++ (x1 ++ x2 ++ (y ++ s)) = p ++ (x1 ++ (x2 ++ (y ++ s))) := by simp
     rw [e3, show m - i = p.length by omega, show m = p.length + j + x2.length by omega, h3]
     have h4 := rotF_ok n (p ++ y) x2 x1 s (p.length + j + x2.length) (i - j) j e2 e1 (by simp; omega) (by omega) hj (by omega)
     have e4 : p ++ (y ++ (x2 ++ (x1 ++ s))) = p ++ y ++ (x2 ++ (x1 ++ s)) := by simp
     rw [e4, h4]
     simp
    ·rename_i h1 h2
     obtain ⟨y1, y2, rfl, e1, e2⟩ : ∃ y1 y2, y = y1 ++ y2 /\ y1.length = j - i /\ y2.length = i := ⟨y.take (j - i), y.drop (j - i), (List.take_append_drop _ _).symm, by rw [List.length_take]; omega, by rw [List.length_drop]; omega⟩
     have h3 := swapN_mid i p x y1 y2 s hx e2
     have e3 : p ++ (x ++ (y1 ++ y2 ++ s)) = p ++ (x ++ (y1 ++ (y2 ++ s))) := by simp
     rw [e3, show m - i = p.length by omega, show m + j - i = p.length + i + y1.length by omega, h3, hm]
     have h4 := rotF_ok n p y2 y1 (x ++ s) (p.length + i) i (j - i) e2 e1 rfl hi (by omega) (by omega)
     rw [h4]
     simp
theorem rotF_len : ∀ (n : Nat) (l : List Int) (m i j : Nat), (rotF n l m i j).length = l.length
 | 0, _, _, _, _ => rfl
 | n + 1, l, m, i, j => by
   rw [rotF]
   split
   ·rw [swapN_len]
   ·split
    ·rw [rotF_len n, swapN_len]
    ·rw [rotF_len n, swapN_len]
end Go.Av
