/- Part of a proof. -/
import Derived.Test.YtpdfolkoejbbgaaGreatDoorCB09
set_option linter.unusedVariables false
set_option linter.unusedSimpArgs false
set_option maxHeartbeats 64000000
set_option maxRecDepth 8000
namespace Go.Av
open Go Go.RowKit Go.Proofs
def sameDR (f g : Int -> Vr) (d e : Dff) : Bool := d.c == e.c && (sameV (f d.x) (g e.x) && sameV (f d.y) (g e.y))
def sameER (f g : Int -> Vr) (d e : Int × Int) : Bool := sameV (f d.1) (g e.1) && sameV (f d.2) (g e.2)
def agreeR (f g : Int -> Vr) (a b : Dcl) : Bool := decide (a.fields = b.fields) && (eqF (sameDR f g) a.diffs b.diffs && eqF (sameER f g) a.equals b.equals)
def InB (x : Int) : Prop := -1000000000 <= x /\ x <= 1000000000
def BndD (d : Dcl) : Prop := d.fields.length <= 1000000 /\ d.diffs.length <= 1000000 /\ d.equals.length <= 1000000 /\ (∀ x ∈ d.diffs, InB x.x /\ InB x.y) /\ ∀ x ∈ d.equals, InB x.1 /\ InB x.2
theorem eqF_false {α : Type} {p : α -> α -> Bool} {a b : List α} {k : Nat} (h1 : k < a.length) (h2 : k < b.length) (h : p a[k] b[k] = false) : eqF p a b = false := by
 by_cases hab : a.length = b.length
 ·rw [eqF_take hab, List.all_eq_false]
  refine ⟨(a[k], b[k]), ?_, by simp [h]⟩
  have := zip_at h1 h2
  rw [<- this]
  exact List.getElem_mem _
 ·simp [eqF, hab]
theorem eqF_true {α : Type} {p : α -> α -> Bool} {a b : List α} (hab : a.length = b.length) (h : ∀ k (h1 : k < a.length) (h2 : k < b.length), p a[k] b[k] = true) : eqF p a b = true := by
 rw [eqF_take hab, List.all_eq_true]
 intro x hx
 obtain ⟨k, hk, he⟩ := List.mem_iff_getElem.1 hx
 rw [zip_len hab] at hk
 rw [zip_at hk (by omega)] at he
 rw [<- he]
 exact h k hk (by omega)
theorem f51 (a b : Glob) (x y : Dcl) (ha : SmallN a) (hb : SmallN b) (hx : BndD x) (hy : BndD y) :
  Impl Tryz.prog 51 [.ag (encG a), .ag (encD x), .ag (encG b), .ag (encD y)] (.one (.one (.bool (agreeR (nameR a.decls) (nameR b.decls) x y)))) := by
 have k0 : ∀ u v, InB u -> InB v -> Impl Tryz.prog 95 [.ag (encG a), .one (.int .i64 u), .ag (encG b), .one (.int .i64 v)] (.one (.one (.bool (sameV (nameR a.decls u) (nameR b.decls v))))) := fun u v hu hv => f95 a b u v ha hb hu hv
 obtain ⟨f, hf⟩ : ∃ f, f = nameR a.decls := ⟨_, rfl⟩
 obtain ⟨g, hg⟩ : ∃ g, g = nameR b.decls := ⟨_, rfl⟩
 rw [<- hf, <- hg]
 rw [<- hf, <- hg] at k0
 simp only [encG] at k0
 clear hf hg
 obtain ⟨hx1, hx2, hx3, hx4, hx5⟩ := hx
 obtain ⟨hy1, hy2, hy3, hy4, hy5⟩ := hy
 refine impl_w Tryz.func51 z51 Tryz.ntmps51 (by simp) ?_
 simp only [slotsOf]
 conv => arg 2; reduce
 by_cases l1 : x.fields.length = y.fields.length
 ·by_cases l2 : x.diffs.length = y.diffs.length
  ·by_cases l3 : x.equals.length = y.equals.length
   ·skip
    repeat' first | refine St.go ?_ | ((with_reducible refine cn ?_ ?_) <;> intro h <;> (try simp [l1, l2, l3] at h) <;> try omega) | (refine Ru.go ?_; intro K hK; simp [go_sem, encD, l1, l2, l3]; (try simp (disch := omega) only [wx, z_i]); (first | apply hK | refine ⟨ob, ?_⟩ | refine ⟨hK _ ?_, fun h => ?_⟩ | refine ⟨?_, ?_⟩); all_goals ((try apply hK); clear hK K))
    refine z_k (fun n e => ∃ k : Nat, k + n = y.fields.length /\ x.fields.take k = y.fields.take k /\ e = [(9, .sv (.one (.int .i64 k))), (8, .sv (.one (.bool false))), (7, .sv (.one (.bx (encD y)))), (6, .sv (.one (.bx (encG b)))), (5, .sv (.one (.bx (encD x)))), (4, .sv (.one (.bx (encG a))))]) y.fields.length _ ⟨0, by simp, by simp, rfl⟩ (by simp [go_sem, encD]) ?_
    rintro n e ⟨k, hk, htk, rfl⟩
    by_cases hlt : k < y.fields.length
    ·have hlt' : k < x.fields.length := by omega
     repeat' first | refine St.go ?_ | ((with_reducible refine cn ?_ ?_) <;> intro h <;> (try simp [hlt, hlt'] at h) <;> try omega) | (refine Ru.go ?_; intro K hK; simp [go_sem, hlt, hlt', encD, encF, bytes_eq]; (try simp (disch := omega) only [wx, z_i]); (first | apply hK | refine ⟨ob, ?_⟩ | refine ⟨hK _ ?_, fun h => ?_⟩ | refine ⟨?_, ?_⟩); all_goals ((try apply hK); clear hK K))
     ·have hne : x.fields ≠ y.fields := fun e => by
       have e2 : x.fields[k] = y.fields[k] := by simp [e]
       rw [e2] at h
       simp at h
      simp [go_sem, agreeR, hne]
     ·have hkk : x.fields[k] = y.fields[k] := by
       cases ha' : x.fields[k]; cases hb' : y.fields[k]
       simp_all
      refine z_j (n - 1) _ (by omega) ⟨k + 1, by omega, ?_, rfl⟩ ?_
      ·rw [List.take_succ_eq_append_getElem hlt, List.take_succ_eq_append_getElem hlt', htk, hkk]
      ·simp [go_sem, encD]
    ·have hkl : x.fields.take k = x.fields := List.take_of_length_le (by omega)
     have hkl' : y.fields.take k = y.fields := List.take_of_length_le (by omega)
     have hE : x.fields = y.fields := by rw [<- hkl, <- hkl', htk]
     clear hkl hkl' htk
     repeat' first | refine St.go ?_ | ((with_reducible refine cn ?_ ?_) <;> intro h <;> (try simp [hlt] at h) <;> try omega) | (refine Ru.go ?_; intro K hK; simp [go_sem, hlt, encD]; (try simp (disch := omega) only [wx, z_i]); (first | apply hK | refine ⟨ob, ?_⟩ | refine ⟨hK _ ?_, fun h => ?_⟩ | refine ⟨?_, ?_⟩); all_goals ((try apply hK); clear hK K))
     clear hlt hk
     refine z_k (fun n e => ∃ k : Nat, k + n = x.diffs.length /\ (∀ j (h1 : j < x.diffs.length) (h2 : j < y.diffs.length), j < k -> sameDR f g x.diffs[j] y.diffs[j] = true) /\ e = [(10, .sv (.one (.int .i64 k))), (8, .sv (.one (.bool false))), (7, .sv (.one (.bx (encD y)))), (6, .sv (.one (.bx (encG b)))), (5, .sv (.one (.bx (encD x)))), (4, .sv (.one (.bx (encG a))))]) x.diffs.length _ ⟨0, by simp, by simp, rfl⟩ (by simp [go_sem, encD, l2]) ?_
     rintro n e ⟨k, hk, h0, rfl⟩
     by_cases hlt : k < x.diffs.length
     ·have hlt' : k < y.diffs.length := by omega
      obtain ⟨p, hp⟩ : ∃ p, x.diffs[k] = p := ⟨_, rfl⟩
      obtain ⟨q, hq⟩ : ∃ q, y.diffs[k] = q := ⟨_, rfl⟩
      obtain ⟨px, py⟩ := hx4 p (hp ▸ List.getElem_mem hlt)
      obtain ⟨qx, qy⟩ := hy4 q (hq ▸ List.getElem_mem hlt')
      have k1 := k0 p.x q.x px qx
      have k2 := k0 p.y q.y py qy
      cases q1 : (p.c == q.c) with
      | false =>
        have hs : sameDR f g p q = false := by simp [sameDR, q1]
        have hF : agreeR f g x y = false := by unfold agreeR; rw [eqF_false hlt hlt' (by rw [hp, hq]; exact hs)]; simp
        have q0 : (p.c != q.c) = true := by simp [bne, q1]
        rw [hF]
        have q_ := aN hlt <| aN hlt' <| aN hp <| aN hq <| aN q0 <| q1
        repeat' first | refine St.go ?_ | ((with_reducible refine cn ?_ ?_) <;> intro h <;> (try simp [q_] at h) <;> try omega) | (refine Ru.go ?_; intro K hK; simp [go_sem, encD, encDf, encG, q_]; (try simp (disch := omega) only [wx, z_i]); (first | apply hK | ((try refine .inl ?_); refine ⟨_, by (try intro hc); (repeat' first | exact k1 | exact k2 | exact hc | refine And.intro ?_ ?_ | simp [go_sem, encD, encDf, encG, q_]); first | done | omega, ?_⟩; first | apply hK | (refine ⟨by simp [go_sem, encD, encDf, encG, q_], ?_⟩; first | apply hK | refine ⟨by simp [go_sem, encD, encDf, encG, q_], hK _ _ ?_⟩)) | refine ⟨.one (.one (.bool false)), by simp [go_sem, encD, encDf, encG, q_], hK _ _ ?_⟩ | refine ⟨ob, ?_⟩ | refine ⟨hK _ ?_, fun h => ?_⟩ | refine ⟨?_, ?_⟩); all_goals ((try apply hK); clear hK K))
        all_goals try clear q_
        simp [go_sem]
      | true =>
        have q0 : (p.c != q.c) = false := by simp [bne, q1]
        cases q2 : sameV (f p.x) (g q.x) with
        | false =>
          have hs : sameDR f g p q = false := by simp [sameDR, q2]
          have hF : agreeR f g x y = false := by unfold agreeR; rw [eqF_false hlt hlt' (by rw [hp, hq]; exact hs)]; simp
          rw [hF]
          rw [q2] at k1
          have q_ := aN hlt <| aN hlt' <| aN hp <| aN hq <| aN q0 <| q1
          repeat' first | refine St.go ?_ | ((with_reducible refine cn ?_ ?_) <;> intro h <;> (try simp [q_] at h) <;> try omega) | (refine Ru.go ?_; intro K hK; simp [go_sem, encD, encDf, encG, q_]; (try simp (disch := omega) only [wx, z_i]); (first | apply hK | ((try refine .inl ?_); refine ⟨_, by (try intro hc); (repeat' first | exact k1 | exact k2 | exact hc | refine And.intro ?_ ?_ | simp [go_sem, encD, encDf, encG, q_]); first | done | omega, ?_⟩; first | apply hK | (refine ⟨by simp [go_sem, encD, encDf, encG, q_], ?_⟩; first | apply hK | refine ⟨by simp [go_sem, encD, encDf, encG, q_], hK _ _ ?_⟩)) | refine ⟨.one (.one (.bool false)), by simp [go_sem, encD, encDf, encG, q_], hK _ _ ?_⟩ | refine ⟨ob, ?_⟩ | refine ⟨hK _ ?_, fun h => ?_⟩ | refine ⟨?_, ?_⟩); all_goals ((try apply hK); clear hK K))
          all_goals try clear q_
          simp [go_sem]
        | true =>
          rw [q2] at k1
          cases q3 : sameV (f p.y) (g q.y) with
          | false =>
            have hs : sameDR f g p q = false := by simp [sameDR, q3]
            have hF : agreeR f g x y = false := by unfold agreeR; rw [eqF_false hlt hlt' (by rw [hp, hq]; exact hs)]; simp
            rw [hF]
            rw [q3] at k2
            have q_ := aN hlt <| aN hlt' <| aN hp <| aN hq <| aN q0 <| q1
            repeat' first | refine St.go ?_ | ((with_reducible refine cn ?_ ?_) <;> intro h <;> (try simp [q_] at h) <;> try omega) | (refine Ru.go ?_; intro K hK; simp [go_sem, encD, encDf, encG, q_]; (try simp (disch := omega) only [wx, z_i]); (first | apply hK | ((try refine .inl ?_); refine ⟨_, by (try intro hc); (repeat' first | exact k1 | exact k2 | exact hc | refine And.intro ?_ ?_ | simp [go_sem, encD, encDf, encG, q_]); first | done | omega, ?_⟩; first | apply hK | (refine ⟨by simp [go_sem, encD, encDf, encG, q_], ?_⟩; first | apply hK | refine ⟨by simp [go_sem, encD, encDf, encG, q_], hK _ _ ?_⟩)) | refine ⟨.one (.one (.bool false)), by simp [go_sem, encD, encDf, encG, q_], hK _ _ ?_⟩ | refine ⟨ob, ?_⟩ | refine ⟨hK _ ?_, fun h => ?_⟩ | refine ⟨?_, ?_⟩); all_goals ((try apply hK); clear hK K))
            all_goals try clear q_
            simp [go_sem]
          | true =>
            have hs : sameDR f g p q = true := by simp [sameDR, q1, q2, q3]
            rw [q3] at k2
            have q_ := aN hlt <| aN hlt' <| aN hp <| aN hq <| aN q0 <| q1
            repeat' first | refine St.go ?_ | ((with_reducible refine cn ?_ ?_) <;> intro h <;> (try simp [q_] at h) <;> try omega) | (refine Ru.go ?_; intro K hK; simp [go_sem, encD, encDf, encG, q_]; (try simp (disch := omega) only [wx, z_i]); (first | apply hK | ((try refine .inl ?_); refine ⟨_, by (try intro hc); (repeat' first | exact k1 | exact k2 | exact hc | refine And.intro ?_ ?_ | simp [go_sem, encD, encDf, encG, q_]); first | done | omega, ?_⟩; first | apply hK | (refine ⟨by simp [go_sem, encD, encDf, encG, q_], ?_⟩; first | apply hK | refine ⟨by simp [go_sem, encD, encDf, encG, q_], hK _ _ ?_⟩)) | refine ⟨.one (.one (.bool false)), by simp [go_sem, encD, encDf, encG, q_], hK _ _ ?_⟩ | refine ⟨ob, ?_⟩ | refine ⟨hK _ ?_, fun h => ?_⟩ | refine ⟨?_, ?_⟩); all_goals ((try apply hK); clear hK K))
            all_goals try clear q_
            refine z_j (n - 1) _ (by omega) ⟨k + 1, by omega, ?_, rfl⟩ ?_
            ·intro j h1 h2 hj
             by_cases hjk : j = k
             ·subst hjk; rw [hp, hq]; exact hs
             ·exact h0 j h1 h2 (by omega)
            ·simp [go_sem, encD, encG]
     ·have hD : eqF (sameDR f g) x.diffs y.diffs = true := eqF_true l2 fun j h1 h2 => h0 j h1 h2 (by omega)
      repeat' first | refine St.go ?_ | ((with_reducible refine cn ?_ ?_) <;> intro h <;> (try simp [hlt] at h) <;> try omega) | (refine Ru.go ?_; intro K hK; simp [go_sem, hlt, encD]; (try simp (disch := omega) only [wx, z_i]); (first | apply hK | refine ⟨ob, ?_⟩ | refine ⟨hK _ ?_, fun h => ?_⟩ | refine ⟨?_, ?_⟩); all_goals ((try apply hK); clear hK K))
      clear hlt hk h0
      refine z_k (fun n e => ∃ k : Nat, k + n = x.equals.length /\ (∀ j (h1 : j < x.equals.length) (h2 : j < y.equals.length), j < k -> sameER f g x.equals[j] y.equals[j] = true) /\ e = [(13, .sv (.one (.int .i64 k))), (8, .sv (.one (.bool false))), (7, .sv (.one (.bx (encD y)))), (6, .sv (.one (.bx (encG b)))), (5, .sv (.one (.bx (encD x)))), (4, .sv (.one (.bx (encG a))))]) x.equals.length _ ⟨0, by simp, by simp, rfl⟩ (by simp [go_sem, encD, l2, l3]) ?_
      rintro n e ⟨k, hk, h0, rfl⟩
      by_cases hlt : k < x.equals.length
      ·have hlt' : k < y.equals.length := by omega
       obtain ⟨⟨p1, p2⟩, hp⟩ : ∃ p, x.equals[k] = p := ⟨_, rfl⟩
       obtain ⟨⟨q1, q2⟩, hq⟩ : ∃ q, y.equals[k] = q := ⟨_, rfl⟩
       obtain ⟨px, py⟩ := hx5 (p1, p2) (hp ▸ List.getElem_mem hlt)
       obtain ⟨qx, qy⟩ := hy5 (q1, q2) (hq ▸ List.getElem_mem hlt')
       have k1 := k0 p1 q1 px qx
       have k2 := k0 p2 q2 py qy
       cases u2 : sameV (f p1) (g q1) with
       | false =>
         have hs : sameER f g (p1, p2) (q1, q2) = false := by simp [sameER, u2]
         have hF : agreeR f g x y = false := by unfold agreeR; rw [eqF_false (p := sameER f g) hlt hlt' (by rw [hp, hq]; exact hs)]; simp
         rw [hF]
         rw [u2] at k1
         have q_ := aN hlt <| aN hlt' <| aN hp <| hq
         repeat' first | refine St.go ?_ | ((with_reducible refine cn ?_ ?_) <;> intro h <;> (try simp [q_] at h) <;> try omega) | (refine Ru.go ?_; intro K hK; simp [go_sem, encD, encEq, encG, q_]; (try simp (disch := omega) only [wx, z_i]); (first | apply hK | ((try refine .inl ?_); refine ⟨_, by (try intro hc); (repeat' first | exact k1 | exact k2 | exact hc | refine And.intro ?_ ?_ | simp [go_sem, encD, encEq, encG, q_]); first | done | omega, ?_⟩; first | apply hK | (refine ⟨by simp [go_sem, encD, encEq, encG, q_], ?_⟩; first | apply hK | refine ⟨by simp [go_sem, encD, encEq, encG, q_], hK _ _ ?_⟩)) | refine ⟨.one (.one (.bool false)), by simp [go_sem, encD, encEq, encG, q_], hK _ _ ?_⟩ | refine ⟨ob, ?_⟩ | refine ⟨hK _ ?_, fun h => ?_⟩ | refine ⟨?_, ?_⟩); all_goals ((try apply hK); clear hK K))
         all_goals try clear q_
         simp [go_sem]
       | true =>
         rw [u2] at k1
         cases u3 : sameV (f p2) (g q2) with
         | false =>
           have hs : sameER f g (p1, p2) (q1, q2) = false := by simp [sameER, u3]
           have hF : agreeR f g x y = false := by unfold agreeR; rw [eqF_false (p := sameER f g) hlt hlt' (by rw [hp, hq]; exact hs)]; simp
           rw [hF]
           rw [u3] at k2
           have q_ := aN hlt <| aN hlt' <| aN hp <| hq
           repeat' first | refine St.go ?_ | ((with_reducible refine cn ?_ ?_) <;> intro h <;> (try simp [q_] at h) <;> try omega) | (refine Ru.go ?_; intro K hK; simp [go_sem, encD, encEq, encG, q_]; (try simp (disch := omega) only [wx, z_i]); (first | apply hK | ((try refine .inl ?_); refine ⟨_, by (try intro hc); (repeat' first | exact k1 | exact k2 | exact hc | refine And.intro ?_ ?_ | simp [go_sem, encD, encEq, encG, q_]); first | done | omega, ?_⟩; first | apply hK | (refine ⟨by simp [go_sem, encD, encEq, encG, q_], ?_⟩; first | apply hK | refine ⟨by simp [go_sem, encD, encEq, encG, q_], hK _ _ ?_⟩)) | refine ⟨.one (.one (.bool false)), by simp [go_sem, encD, encEq, encG, q_], hK _ _ ?_⟩ | refine ⟨ob, ?_⟩ | refine ⟨hK _ ?_, fun h => ?_⟩ | refine ⟨?_, ?_⟩); all_goals ((try apply hK); clear hK K))
           all_goals try clear q_
           simp [go_sem]
         | true =>
           have hs : sameER f g (p1, p2) (q1, q2) = true := by simp [sameER, u2, u3]
           rw [u3] at k2
           have q_ := aN hlt <| aN hlt' <| aN hp <| hq
           repeat' first | refine St.go ?_ | ((with_reducible refine cn ?_ ?_) <;> intro h <;> (try simp [q_] at h) <;> try omega) | (refine Ru.go ?_; intro K hK; simp [go_sem, encD, encEq, encG, q_]; (try simp (disch := omega) only [wx, z_i]); (first | apply hK | ((try refine .inl ?_); refine ⟨_, by (try intro hc); (repeat' first | exact k1 | exact k2 | exact hc | refine And.intro ?_ ?_ | simp [go_sem, encD, encEq, encG, q_]); first | done | omega, ?_⟩; first | apply hK | (refine ⟨by simp [go_sem, encD, encEq, encG, q_], ?_⟩; first | apply hK | refine ⟨by simp [go_sem, encD, encEq, encG, q_], hK _ _ ?_⟩)) | refine ⟨.one (.one (.bool false)), by simp [go_sem, encD, encEq, encG, q_], hK _ _ ?_⟩ | refine ⟨ob, ?_⟩ | refine ⟨hK _ ?_, fun h => ?_⟩ | refine ⟨?_, ?_⟩); all_goals ((try apply hK); clear hK K))
           all_goals try clear q_
           refine z_j (n - 1) _ (by omega) ⟨k + 1, by omega, ?_, rfl⟩ ?_
           ·intro j h1 h2 hj
            by_cases hjk : j = k
            ·subst hjk; rw [hp, hq]; exact hs
            ·exact h0 j h1 h2 (by omega)
           ·simp [go_sem, encD, encG]
      ·have hEE : eqF (sameER f g) x.equals y.equals = true := eqF_true l3 fun j h1 h2 => h0 j h1 h2 (by omega)
       have hF : agreeR f g x y = true := by unfold agreeR; rw [hD, hEE]; simp [hE]
       rw [hF]
       repeat' first | refine St.go ?_ | ((with_reducible refine cn ?_ ?_) <;> intro h <;> (try simp [hlt] at h) <;> try omega) | (refine Ru.go ?_; intro K hK; simp [go_sem, hlt, encD]; (try simp (disch := omega) only [wx, z_i]); (first | apply hK | refine ⟨ob, ?_⟩ | refine ⟨hK _ ?_, fun h => ?_⟩ | refine ⟨?_, ?_⟩); all_goals ((try apply hK); clear hK K))
       simp [go_sem]
   ·have hF : agreeR f g x y = false := by simp [agreeR, eqF, l3]
    rw [hF]
    repeat' first | refine St.go ?_ | ((with_reducible refine cn ?_ ?_) <;> intro h <;> (try simp [l1, l2, l3] at h) <;> try omega) | (refine Ru.go ?_; intro K hK; simp [go_sem, encD, l1, l2, l3]; (try simp (disch := omega) only [wx, z_i]); (first | apply hK | refine ⟨ob, ?_⟩ | refine ⟨hK _ ?_, fun h => ?_⟩ | refine ⟨?_, ?_⟩); all_goals ((try apply hK); clear hK K))
    simp [go_sem]
  ·have hF : agreeR f g x y = false := by simp [agreeR, eqF, l2]
   rw [hF]
   repeat' first | refine St.go ?_ | ((with_reducible refine cn ?_ ?_) <;> intro h <;> (try simp [l1, l2] at h) <;> try omega) | (refine Ru.go ?_; intro K hK; simp [go_sem, encD, l1, l2]; (try simp (disch := omega) only [wx, z_i]); (first | apply hK | refine ⟨ob, ?_⟩ | refine ⟨hK _ ?_, fun h => ?_⟩ | refine ⟨?_, ?_⟩); all_goals ((try apply hK); clear hK K))
   simp [go_sem]
 ·have hF : agreeR f g x y = false := by
   have hne : x.fields ≠ y.fields := fun e => l1 (by rw [e])
   simp [agreeR, hne]
  rw [hF]
  repeat' first | refine St.go ?_ | ((with_reducible refine cn ?_ ?_) <;> intro h <;> (try simp [l1] at h) <;> try omega) | (refine Ru.go ?_; intro K hK; simp [go_sem, encD, l1]; (try simp (disch := omega) only [wx, z_i]); (first | apply hK | refine ⟨ob, ?_⟩ | refine ⟨hK _ ?_, fun h => ?_⟩ | refine ⟨?_, ?_⟩); all_goals ((try apply hK); clear hK K))
  simp [go_sem]
def isP (p x : Int × Int) : Bool := x.1 == p.1 && x.2 == p.2
def placeB (t : Tab) (p : Int × Int) : Int := firstB (isP p) t.pairs
def holdE (t : Tab) (p : Int × Int) (x : Edg) : Bool := x.from_ != p.1 || (decide (0 <= folB t p.2 x) && (t.good[(placeB t (x.to, folB t p.2 x)).toNat]?).getD false)
def holdsB (t : Tab) (p : Int × Int) : Bool := decide (0 <= p.2) && ((p.1 != t.old.end_ || p.2 == t.new.end_) && t.old.edges.all (holdE t p))
theorem all_suc2 {α : Type} {p : α -> Bool} {l : List α} {k : Nat} (hk : k < l.length) : (l.take (k + 1)).all p = ((l.take k).all p && p l[k]) := by
 rw [List.take_succ_eq_append_getElem hk, List.all_append]
 simp
theorem all_at {α : Type} {p : α -> Bool} {l : List α} {k : Nat} (hk : k < l.length) (h : p l[k] = false) : l.all p = false := by
 rw [List.all_eq_false]
 exact ⟨l[k], List.getElem_mem hk, by simp [h]⟩
theorem f55 (t : Tab) (p : Int × Int) (ho : t.old.edges.length <= 1000000) (hn : t.new.edges.length <= 1000000) (hp : t.pairs.length <= 1000000) (hlab : ∀ x ∈ t.old.edges, 0 <= x.act.label /\ x.act.label < t.labels.length)
  (hin : ∀ x ∈ t.old.edges, x.from_ = p.1 -> 0 <= folB t p.2 x -> 0 <= placeB t (x.to, folB t p.2 x) /\ placeB t (x.to, folB t p.2 x) < t.good.length) :
  Impl Tryz.prog 55 [.ag (encTab t), .ag (encEq p)] (.one (.one (.bool (holdsB t p)))) := by
 have j1 : ∀ x ∈ t.old.edges, Impl Tryz.prog 53 [.ag (encTab t), .one (.int .i64 p.2), .ag (encEd x)] (.one (.one (.int .i64 (folB t p.2 x)))) := fun x hx => f53 t p.2 x hn (hlab x hx).1 (hlab x hx).2
 have j2 : ∀ q : Int × Int, Impl Tryz.prog 54 [.one (.sl (t.pairs.map encEq)), .ag (encEq q)] (.one (.one (.int .i64 (placeB t q)))) := fun q => f54 t.pairs q hp
 simp only [encTab, encG, encEd, encEq, List.cons_append, List.nil_append] at j1
 obtain ⟨p1, p2⟩ := p
 refine impl_w Tryz.func55 z55 Tryz.ntmps55 (by simp) ?_
 simp only [slotsOf]
 conv => arg 2; reduce
 by_cases h1 : p2 < 0
 ·have hF : holdsB t (p1, p2) = false := by
   have : ¬ 0 <= p2 := by omega
   simp [holdsB, this]
  rw [hF]
  repeat' first | refine St.go ?_ | ((with_reducible refine cn ?_ ?_) <;> intro h <;> (try simp [h1] at h) <;> try omega) | (refine Ru.go ?_; intro K hK; simp [go_sem, encTab, encG, encEq, h1]; (try simp (disch := omega) only [wx, z_i]); (first | apply hK | refine ⟨ob, ?_⟩ | refine ⟨hK _ ?_, fun h => ?_⟩ | refine ⟨?_, ?_⟩); all_goals ((try apply hK); clear hK K))
  simp [go_sem]
 ·have h1' : 0 <= p2 := by omega
  by_cases h2 : p1 = t.old.end_ /\ p2 ≠ t.new.end_
  ·have hF : holdsB t (p1, p2) = false := by simp [holdsB, h2.1, h2.2]
   rw [hF]
   obtain ⟨u1, u2⟩ := h2
   repeat' first | refine St.go ?_ | ((with_reducible refine cn ?_ ?_) <;> intro h <;> (try simp [h1, u1, u2] at h) <;> try omega) | (refine Ru.go ?_; intro K hK; simp [go_sem, encTab, encG, encEq, h1, u1, u2]; (try simp (disch := omega) only [wx, z_i]); (first | apply hK | refine ⟨ob, ?_⟩ | refine ⟨hK _ ?_, fun h => ?_⟩ | refine ⟨?_, ?_⟩); all_goals ((try apply hK); clear hK K))
   simp [go_sem]
  ·have hT : holdsB t (p1, p2) = t.old.edges.all (holdE t (p1, p2)) := by
    have : (p1 != t.old.end_ || p2 == t.new.end_) = true := by
     by_cases u : p1 = t.old.end_
     ·have : p2 = t.new.end_ := Decidable.byContradiction fun v => h2 ⟨u, v⟩
      simp [this]
     ·simp [u]
    simp only [holdsB, this, Bool.true_and]
    simp [h1']
   rw [hT]
   clear hT
   repeat' first | refine St.go ?_ | ((with_reducible refine cn ?_ ?_) <;> intro h <;> (try simp [h1] at h) <;> try omega) | (refine Ru.go ?_; intro K hK; simp [go_sem, encTab, encG, encEq, h1]; (try simp (disch := omega) only [wx, z_i]); (first | apply hK | refine ⟨ob, ?_⟩ | refine ⟨hK _ ?_, fun h => ?_⟩ | refine ⟨?_, ?_⟩); all_goals ((try apply hK); clear hK K))
   clear h
   refine z_k (fun n e => ∃ k : Nat, k + n = t.old.edges.length /\ (t.old.edges.take k).all (holdE t (p1, p2)) = true /\ e = [(5, .sv (.one (.int .i64 k))), (4, .sv (.one (.bool false))), (3, .sv (.one (.bx (encEq (p1, p2))))), (2, .sv (.one (.bx (encTab t))))]) t.old.edges.length _ ⟨0, by simp, by simp, rfl⟩ (by simp [go_sem, encTab, encG, encEq]) ?_
   rintro n e ⟨k, hk, h0, rfl⟩
   by_cases hlt : k < t.old.edges.length
   ·obtain ⟨x, hx⟩ : ∃ x, t.old.edges[k] = x := ⟨_, rfl⟩
    have hm : x ∈ t.old.edges := hx ▸ List.getElem_mem hlt
    by_cases c1 : x.from_ = p1
    ·have i1 := hin x hm c1
     have k1 := j1 x hm
     simp only at i1 k1
     obtain ⟨v, hv⟩ : ∃ v, folB t p2 x = v := ⟨_, rfl⟩
     rw [hv] at i1 k1
     rw [c1] at k1
     have k2 := j2 (x.to, v)
     obtain ⟨i, hi⟩ : ∃ i, placeB t (x.to, v) = i := ⟨_, rfl⟩
     rw [hi] at i1 k2
     simp only [encEq] at k2
     have hok : holdE t (p1, p2) x = (decide (0 <= v) && (t.good[i.toNat]?).getD false) := by
      unfold holdE
      simp only [hv, hi, c1, bne_self_eq_false, Bool.false_or]
     by_cases c2 : v < 0
     ·have hF : t.old.edges.all (holdE t (p1, p2)) = false := all_at hlt (by
       have : ¬ 0 <= v := by omega
       rw [hx, hok]; simp [this])
      rw [hF]
      cases hg : t.good[i.toNat]? with
      | none =>
        have q_ := aN hlt <| aN hx <| aN c1 <| aN c2 <| hg
        repeat' first | refine St.go ?_ | ((with_reducible refine cn ?_ ?_) <;> intro h <;> (try simp [q_] at h) <;> try omega) | (refine Ru.go ?_; intro K hK; simp [go_sem, encTab, encG, encEq, encEd, encBl, q_]; (try simp (disch := omega) only [wx, z_i]); (first | apply hK | ((try refine .inl ?_); refine ⟨_, by (try intro hc); (repeat' first | exact k1 | exact k2 | exact hc | refine And.intro ?_ ?_ | simp [go_sem, encTab, encG, encEq, encEd, encBl, q_]); first | done | omega, ?_⟩; first | apply hK | (refine ⟨by simp [go_sem, encTab, encG, encEq, encEd, encBl, q_], ?_⟩; first | apply hK | refine ⟨by simp [go_sem, encTab, encG, encEq, encEd, encBl, q_], hK _ _ ?_⟩)) | refine ⟨.one (.one (.bool false)), by simp [go_sem, encTab, encG, encEq, encEd, encBl, q_], hK _ _ ?_⟩ | refine ⟨ob, ?_⟩ | refine ⟨hK _ ?_, fun h => ?_⟩ | refine ⟨?_, ?_⟩); all_goals ((try apply hK); clear hK K))
        all_goals try clear q_
        simp [go_sem]
      | some b =>
        have q_ := aN hlt <| aN hx <| aN c1 <| aN c2 <| hg
        repeat' first | refine St.go ?_ | ((with_reducible refine cn ?_ ?_) <;> intro h <;> (try simp [q_] at h) <;> try omega) | (refine Ru.go ?_; intro K hK; simp [go_sem, encTab, encG, encEq, encEd, encBl, q_]; (try simp (disch := omega) only [wx, z_i]); (first | apply hK | ((try refine .inl ?_); refine ⟨_, by (try intro hc); (repeat' first | exact k1 | exact k2 | exact hc | refine And.intro ?_ ?_ | simp [go_sem, encTab, encG, encEq, encEd, encBl, q_]); first | done | omega, ?_⟩; first | apply hK | (refine ⟨by simp [go_sem, encTab, encG, encEq, encEd, encBl, q_], ?_⟩; first | apply hK | refine ⟨by simp [go_sem, encTab, encG, encEq, encEd, encBl, q_], hK _ _ ?_⟩)) | refine ⟨.one (.one (.bool false)), by simp [go_sem, encTab, encG, encEq, encEd, encBl, q_], hK _ _ ?_⟩ | refine ⟨ob, ?_⟩ | refine ⟨hK _ ?_, fun h => ?_⟩ | refine ⟨?_, ?_⟩); all_goals ((try apply hK); clear hK K))
        all_goals try clear q_
        simp [go_sem]
     ·have c2' : 0 <= v := by omega
      obtain ⟨i2, i3⟩ := i1 c2'
      have hl : i.toNat < t.good.length := by omega
      obtain ⟨b, hg⟩ : ∃ b, t.good[i.toNat] = b := ⟨_, rfl⟩
      have hg2 : t.good[i.toNat]? = some b := by rw [List.getElem?_eq_getElem hl, hg]
      rw [hg2] at hok
      cases b with
      | false =>
        have hF : t.old.edges.all (holdE t (p1, p2)) = false := all_at hlt (by rw [hx, hok]; simp)
        rw [hF]
        have q_ := aN hlt <| aN hx <| aN c1 <| aN c2 <| aN hl <| aN hg <| i2
        repeat' first | refine St.go ?_ | ((with_reducible refine cn ?_ ?_) <;> intro h <;> (try simp [q_] at h) <;> try omega) | (refine Ru.go ?_; intro K hK; simp [go_sem, encTab, encG, encEq, encEd, encBl, q_]; (try simp (disch := omega) only [wx, z_i]); (first | apply hK | ((try refine .inl ?_); refine ⟨_, by (try intro hc); (repeat' first | exact k1 | exact k2 | exact hc | refine And.intro ?_ ?_ | simp [go_sem, encTab, encG, encEq, encEd, encBl, q_]); first | done | omega, ?_⟩; first | apply hK | (refine ⟨by simp [go_sem, encTab, encG, encEq, encEd, encBl, q_], ?_⟩; first | apply hK | refine ⟨by simp [go_sem, encTab, encG, encEq, encEd, encBl, q_], hK _ _ ?_⟩)) | refine ⟨.one (.one (.bool false)), by simp [go_sem, encTab, encG, encEq, encEd, encBl, q_], hK _ _ ?_⟩ | refine ⟨ob, ?_⟩ | refine ⟨hK _ ?_, fun h => ?_⟩ | refine ⟨?_, ?_⟩); all_goals ((try apply hK); clear hK K))
        all_goals try clear q_
        simp [go_sem]
      | true =>
        have q_ := aN hlt <| aN hx <| aN c1 <| aN c2 <| aN hl <| aN hg <| i2
        repeat' first | refine St.go ?_ | ((with_reducible refine cn ?_ ?_) <;> intro h <;> (try simp [q_] at h) <;> try omega) | (refine Ru.go ?_; intro K hK; simp [go_sem, encTab, encG, encEq, encEd, encBl, q_]; (try simp (disch := omega) only [wx, z_i]); (first | apply hK | ((try refine .inl ?_); refine ⟨_, by (try intro hc); (repeat' first | exact k1 | exact k2 | exact hc | refine And.intro ?_ ?_ | simp [go_sem, encTab, encG, encEq, encEd, encBl, q_]); first | done | omega, ?_⟩; first | apply hK | (refine ⟨by simp [go_sem, encTab, encG, encEq, encEd, encBl, q_], ?_⟩; first | apply hK | refine ⟨by simp [go_sem, encTab, encG, encEq, encEd, encBl, q_], hK _ _ ?_⟩)) | refine ⟨.one (.one (.bool false)), by simp [go_sem, encTab, encG, encEq, encEd, encBl, q_], hK _ _ ?_⟩ | refine ⟨ob, ?_⟩ | refine ⟨hK _ ?_, fun h => ?_⟩ | refine ⟨?_, ?_⟩); all_goals ((try apply hK); clear hK K))
        all_goals try clear q_
        refine z_j (n - 1) _ (by omega) ⟨k + 1, by omega, ?_, rfl⟩ ?_
        ·rw [all_suc2 hlt, h0, hx, hok]
         simp [c2']
        ·simp [go_sem, encTab, encG, encEq]
    ·have hok : holdE t (p1, p2) x = true := by simp [holdE, c1]
     repeat' first | refine St.go ?_ | ((with_reducible refine cn ?_ ?_) <;> intro h <;> (try simp [hlt, hx, c1] at h) <;> try omega) | (refine Ru.go ?_; intro K hK; simp [go_sem, hlt, hx, encTab, encG, encEq, encEd, c1]; (try simp (disch := omega) only [wx, z_i]); (first | apply hK | refine ⟨ob, ?_⟩ | refine ⟨hK _ ?_, fun h => ?_⟩ | refine ⟨?_, ?_⟩); all_goals ((try apply hK); clear hK K))
     refine z_j (n - 1) _ (by omega) ⟨k + 1, by omega, ?_, rfl⟩ ?_
     ·rw [all_suc2 hlt, h0, hx, hok]; rfl
     ·simp [go_sem, encTab, encG, encEq]
   ·have hkl : t.old.edges.take k = t.old.edges := List.take_of_length_le (by omega)
    rw [hkl] at h0
    rw [h0]
    repeat' first | refine St.go ?_ | ((with_reducible refine cn ?_ ?_) <;> intro h <;> (try simp [hlt] at h) <;> try omega) | (refine Ru.go ?_; intro K hK; simp [go_sem, hlt, encTab, encG]; (try simp (disch := omega) only [wx, z_i]); (first | apply hK | refine ⟨ob, ?_⟩ | refine ⟨hK _ ?_, fun h => ?_⟩ | refine ⟨?_, ?_⟩); all_goals ((try apply hK); clear hK K))
    simp [go_sem]
def atE (s : Int) (a : Inter) (x : Edg) : Bool := x.from_ == s && actEq x.act a
def afterP (t : Tab) (i : Int) (a : Inter) : Option Int := if 0 <= i then match t.pairs[i.toNat]? with
 | some p => (t.old.edges.find? (atE p.1 a)).map fun x => placeB t (x.to, folB t p.2 x)
 | none => none else none
def afterV (t : Tab) (i : Int) (a : Inter) : Int × Bool := match afterP t i a with
 | some k => (max k 0, decide (0 <= k))
 | none => (0, false)
def afterR (t : Tab) (i : Int) (a : Inter) : Int × Bool := match afterP t i a with
 | some k => (max 0 k, true)
 | none => (0, false)
theorem g57 (t : Tab) (hp : t.pairs.length <= 1000000) (q : Int × Int) : Impl Tryz.prog 57 [.one (.sl (t.pairs.map encEq)), .ag (encEq q)] (.one (.one (.int .i64 (placeB t q)))) := by
 have h := f57 t.pairs q hp
 have e : (fun x : Int × Int => q.1 == x.1 && q.2 == x.2) = isP q := by
  funext x
  simp only [isP, Bool.beq_comm]
 rw [e] at h
 exact h
theorem f22 (t : Tab) (i : Int) (a : Inter) (ho : t.old.edges.length <= 1000000) (hn : t.new.edges.length <= 1000000) (hp : t.pairs.length <= 1000000) :
  Impl Tryz.prog 22 [.ag (encTab t), .one (.int .i64 i), .ag (encI a)] (.tup [.one (.int .i64 (afterV t i a).1), .one (.bool (afterV t i a).2)]) := by
 have j1 : ∀ s x, Impl Tryz.prog 47 [.ag (encTab t), .one (.int .i64 s), .ag (encEd x)] (.one (.one (.int .i64 (folB t s x)))) := fun s x => f47 t s x hn
 have j2 := g57 t hp
 simp only [encTab, encG, encEd, encEq, List.cons_append, List.nil_append] at j1
 simp only [encEq] at j2
 refine impl_w Tryz.func22 z22 Tryz.ntmps22 (by simp) ?_
 simp only [slotsOf]
 conv => arg 2; reduce
 by_cases h1 : i < 0
 ·have hF : afterV t i a = (0, false) := by
   have : ¬ 0 <= i := by omega
   simp [afterV, afterP, this]
  rw [hF]
  repeat' first | refine St.go ?_ | ((with_reducible refine cn ?_ ?_) <;> intro h <;> (try simp [h1] at h) <;> try omega) | (refine Ru.go ?_; intro K hK; simp [go_sem, encTab, encG, encI, h1]; (try simp (disch := omega) only [wx, z_i]); (first | apply hK | refine ⟨ob, ?_⟩ | refine ⟨hK _ ?_, fun h => ?_⟩ | refine ⟨?_, ?_⟩); all_goals ((try apply hK); clear hK K))
  simp [go_sem]
 ·have h1' : 0 <= i := by omega
  by_cases h2 : i < t.pairs.length
  ·have hl : i.toNat < t.pairs.length := by omega
   obtain ⟨⟨p1, p2⟩, hpi⟩ : ∃ p, t.pairs[i.toNat] = p := ⟨_, rfl⟩
   have hA : afterP t i a = (t.old.edges.find? (atE p1 a)).map fun x => placeB t (x.to, folB t p2 x) := by
    unfold afterP
    rw [if_pos h1', List.getElem?_eq_getElem hl, hpi]
   have n2 : ¬ (t.pairs.length : Int) <= i := by omega
   repeat' first | refine St.go ?_ | ((with_reducible refine cn ?_ ?_) <;> intro h <;> (try simp [h1, n2, hl, hpi] at h) <;> try omega) | (refine Ru.go ?_; intro K hK; simp [go_sem, encTab, encG, encI, encEq, h1, n2, hl, hpi]; (try simp (disch := omega) only [wx, z_i]); (first | apply hK | refine ⟨ob, ?_⟩ | refine ⟨hK _ ?_, fun h => ?_⟩ | refine ⟨?_, ?_⟩); all_goals ((try apply hK); clear hK K))
   refine z_k (fun n e => ∃ k : Nat, k + n = t.old.edges.length /\ (t.old.edges.take k).any (atE p1 a) = false /\ e = [(30, .sv (.one (.int .i64 k))), (29, .sv (.one (.int .i64 t.old.edges.length))), (28, .sv (.one (.sl (t.old.edges.map encEd)))), (8, .sv (.one (.bx (encEq (p1, p2))))), (5, .sv (.one (.bx (encI a)))), (3, .sv (.one (.bx (encTab t))))]) t.old.edges.length _ ⟨0, by simp, by simp, rfl⟩ (by simp [go_sem, encTab, encG, encEq, encI]) ?_
   rintro n e ⟨k, hk, h0, rfl⟩
   by_cases hlt : k < t.old.edges.length
   ·obtain ⟨x, hx⟩ : ∃ x, t.old.edges[k] = x := ⟨_, rfl⟩
    have k1 := j1 p2 x
    have k2 := j2 (x.to, folB t p2 x)
    obtain ⟨v, hv⟩ : ∃ v, folB t p2 x = v := ⟨_, rfl⟩
    obtain ⟨w, hw⟩ : ∃ w, placeB t (x.to, v) = w := ⟨_, rfl⟩
    rw [hv] at k1 k2
    simp only [hw] at k2
    cases c1 : atE p1 a x with
    | true =>
      have hf := find_at (p := atE p1 a) hlt h0 (by rw [hx]; exact c1)
      rw [hx] at hf
      have hR : afterV t i a = (max w 0, decide (0 <= w)) := by
       unfold afterV
       rw [hA, hf]
       simp [hv, hw]
      simp only [atE, actEq, Bool.and_eq_true, beq_iff_eq] at c1
      obtain ⟨u1, ⟨u2, u3⟩, u4⟩ := c1
      rw [hR]
      rw [u1, u2, u3, u4] at k1
      have q_ := aN hlt <| aN hx <| aN u1 <| aN u2 <| aN u3 <| u4
      repeat' first | refine St.go ?_ | ((with_reducible refine cn ?_ ?_) <;> intro h <;> (try simp [q_] at h) <;> try omega) | (refine Ru.go ?_; intro K hK; simp [go_sem, encTab, encG, encEq, encEd, encI, q_]; (try simp (disch := omega) only [wx, z_i]); (first | apply hK | ((try refine .inl ?_); refine ⟨_, by (repeat' first | exact k1 | exact k2 | refine And.intro ?_ ?_ | simp [go_sem, encTab, encG, encEq, encEd, encI, q_]); first | done | omega, ?_⟩; first | apply hK | (refine ⟨by simp [go_sem, encTab, encG, encEq, encEd, encI, q_], ?_⟩; first | apply hK | refine ⟨by simp [go_sem, encTab, encG, encEq, encEd, encI, q_], hK _ _ ?_⟩)) | refine ⟨ob, ?_⟩ | refine ⟨hK _ ?_, fun h => ?_⟩ | refine ⟨?_, ?_⟩); all_goals ((try apply hK); clear hK K))
      all_goals try clear q_
      simp [go_sem]
    | false =>
      have c2 : (x.from_ == p1 && (x.act.from_ == a.from_ && (x.act.to == a.to && x.act.label == a.label))) = false := by
       rw [<- c1]
       simp only [atE, actEq, Bool.and_assoc]
      have q_ := aN hlt <| aN hx <| c2
      repeat' first | refine St.go ?_ | ((with_reducible refine cn ?_ ?_) <;> intro h <;> (try simp [q_] at h) <;> try omega) | (refine Ru.go ?_; intro K hK; simp [go_sem, encTab, encG, encEq, encEd, encI, q_]; (try simp (disch := omega) only [wx, z_i]); (first | apply hK | ((try refine .inl ?_); refine ⟨_, by (repeat' first | exact k1 | exact k2 | refine And.intro ?_ ?_ | simp [go_sem, encTab, encG, encEq, encEd, encI, q_]); first | done | omega, ?_⟩; first | apply hK | (refine ⟨by simp [go_sem, encTab, encG, encEq, encEd, encI, q_], ?_⟩; first | apply hK | refine ⟨by simp [go_sem, encTab, encG, encEq, encEd, encI, q_], hK _ _ ?_⟩)) | refine ⟨ob, ?_⟩ | refine ⟨hK _ ?_, fun h => ?_⟩ | refine ⟨?_, ?_⟩); all_goals ((try apply hK); clear hK K))
      all_goals try clear q_
      refine z_j (n - 1) _ (by omega) ⟨k + 1, by omega, ?_, rfl⟩ ?_
      ·rw [any_succ hlt, h0, hx, c1]; rfl
      ·simp [go_sem, encTab, encG, encEq, encI]
   ·have hkl : t.old.edges.take k = t.old.edges := List.take_of_length_le (by omega)
    rw [hkl] at h0
    have hf := find_none h0
    have hR : afterV t i a = (0, false) := by
     unfold afterV
     rw [hA, hf]
     rfl
    rw [hR]
    repeat' first | refine St.go ?_ | ((with_reducible refine cn ?_ ?_) <;> intro h <;> (try simp [hlt] at h) <;> try omega) | (refine Ru.go ?_; intro K hK; simp [go_sem, hlt]; (try simp (disch := omega) only [wx, z_i]); (first | apply hK | refine ⟨ob, ?_⟩ | refine ⟨hK _ ?_, fun h => ?_⟩ | refine ⟨?_, ?_⟩); all_goals ((try apply hK); clear hK K))
    simp [go_sem]
  ·have hF : afterV t i a = (0, false) := by
    have : t.pairs[i.toNat]? = none := List.getElem?_eq_none (by omega)
    simp [afterV, afterP, this]
   have n2 : (t.pairs.length : Int) <= i := by omega
   rw [hF]
   repeat' first | refine St.go ?_ | ((with_reducible refine cn ?_ ?_) <;> intro h <;> (try simp [h1, n2] at h) <;> try omega) | (refine Ru.go ?_; intro K hK; simp [go_sem, encTab, encG, encI, h1, n2]; (try simp (disch := omega) only [wx, z_i]); (first | apply hK | refine ⟨ob, ?_⟩ | refine ⟨hK _ ?_, fun h => ?_⟩ | refine ⟨?_, ?_⟩); all_goals ((try apply hK); clear hK K))
   simp [go_sem]
theorem f23 (t : Tab) (i : Int) (a : Inter) (ho : t.old.edges.length <= 1000000) (hn : t.new.edges.length <= 1000000) (hp : t.pairs.length <= 1000000) (hlab : ∀ x ∈ t.old.edges, 0 <= x.act.label /\ x.act.label < t.labels.length) :
  Impl Tryz.prog 23 [.ag (encTab t), .one (.int .i64 i), .ag (encI a)] (.tup [.one (.int .i64 (afterR t i a).1), .one (.bool (afterR t i a).2)]) := by
 have j1 : ∀ s, ∀ x ∈ t.old.edges, Impl Tryz.prog 53 [.ag (encTab t), .one (.int .i64 s), .ag (encEd x)] (.one (.one (.int .i64 (folB t s x)))) := fun s x hx => f53 t s x hn (hlab x hx).1 (hlab x hx).2
 have j2 : ∀ q : Int × Int, Impl Tryz.prog 54 [.one (.sl (t.pairs.map encEq)), .ag (encEq q)] (.one (.one (.int .i64 (placeB t q)))) := fun q => f54 t.pairs q hp
 simp only [encTab, encG, encEd, encEq, List.cons_append, List.nil_append] at j1
 simp only [encEq] at j2
 refine impl_w Tryz.func23 z23 Tryz.ntmps23 (by simp) ?_
 simp only [slotsOf]
 conv => arg 2; reduce
 by_cases h1 : i < 0
 ·have hF : afterR t i a = (0, false) := by
   have : ¬ 0 <= i := by omega
   simp [afterR, afterP, this]
  rw [hF]
  repeat' first | refine St.go ?_ | ((with_reducible refine cn ?_ ?_) <;> intro h <;> (try simp [h1] at h) <;> try omega) | (refine Ru.go ?_; intro K hK; simp [go_sem, encTab, encG, encI, h1]; (try simp (disch := omega) only [wx, z_i]); (first | apply hK | refine ⟨ob, ?_⟩ | refine ⟨hK _ ?_, fun h => ?_⟩ | refine ⟨?_, ?_⟩); all_goals ((try apply hK); clear hK K))
  simp [go_sem]
 ·have h1' : 0 <= i := by omega
  by_cases h2 : i < t.pairs.length
  ·have hl : i.toNat < t.pairs.length := by omega
   obtain ⟨⟨p1, p2⟩, hpi⟩ : ∃ p, t.pairs[i.toNat] = p := ⟨_, rfl⟩
   have hA : afterP t i a = (t.old.edges.find? (atE p1 a)).map fun x => placeB t (x.to, folB t p2 x) := by
    unfold afterP
    rw [if_pos h1', List.getElem?_eq_getElem hl, hpi]
   have n2 : ¬ (t.pairs.length : Int) <= i := by omega
   repeat' first | refine St.go ?_ | ((with_reducible refine cn ?_ ?_) <;> intro h <;> (try simp [h1, n2, hl, hpi] at h) <;> try omega) | (refine Ru.go ?_; intro K hK; simp [go_sem, encTab, encG, encI, encEq, h1, n2, hl, hpi]; (try simp (disch := omega) only [wx, z_i]); (first | apply hK | refine ⟨ob, ?_⟩ | refine ⟨hK _ ?_, fun h => ?_⟩ | refine ⟨?_, ?_⟩); all_goals ((try apply hK); clear hK K))
   refine z_k (fun n e => ∃ k : Nat, k + n = t.old.edges.length /\ (t.old.edges.take k).any (atE p1 a) = false /\ e = [(9, .sv (.one (.int .i64 k))), (8, .sv (.one (.bx (encEq (p1, p2))))), (5, .sv (.one (.bx (encI a)))), (3, .sv (.one (.bx (encTab t))))]) t.old.edges.length _ ⟨0, by simp, by simp, rfl⟩ (by simp [go_sem, encTab, encG, encEq, encI]) ?_
   rintro n e ⟨k, hk, h0, rfl⟩
   by_cases hlt : k < t.old.edges.length
   ·obtain ⟨x, hx⟩ : ∃ x, t.old.edges[k] = x := ⟨_, rfl⟩
    have k1 := j1 p2 x (hx ▸ List.getElem_mem hlt)
    have k2 := j2 (x.to, folB t p2 x)
    obtain ⟨v, hv⟩ : ∃ v, folB t p2 x = v := ⟨_, rfl⟩
    obtain ⟨w, hw⟩ : ∃ w, placeB t (x.to, v) = w := ⟨_, rfl⟩
    rw [hv] at k1 k2
    simp only [hw] at k2
    cases c1 : atE p1 a x with
    | true =>
      have hf := find_at (p := atE p1 a) hlt h0 (by rw [hx]; exact c1)
      rw [hx] at hf
      have hR : afterR t i a = (max 0 w, true) := by
       unfold afterR
       rw [hA, hf]
       simp [hv, hw]
      simp only [atE, actEq, Bool.and_eq_true, beq_iff_eq] at c1
      obtain ⟨u1, ⟨u2, u3⟩, u4⟩ := c1
      rw [hR]
      rw [u1, u2, u3, u4] at k1
      have q_ := aN hlt <| aN hx <| aN u1 <| aN u2 <| aN u3 <| u4
      repeat' first | refine St.go ?_ | ((with_reducible refine cn ?_ ?_) <;> intro h <;> (try simp [q_] at h) <;> try omega) | (refine Ru.go ?_; intro K hK; simp [go_sem, encTab, encG, encEq, encEd, encI, q_]; (try simp (disch := omega) only [wx, z_i]); (first | apply hK | ((try refine .inl ?_); refine ⟨_, by (repeat' first | exact k1 | exact k2 | refine And.intro ?_ ?_ | simp [go_sem, encTab, encG, encEq, encEd, encI, q_]); first | done | omega, ?_⟩; first | apply hK | (refine ⟨by simp [go_sem, encTab, encG, encEq, encEd, encI, q_], ?_⟩; first | apply hK | refine ⟨by simp [go_sem, encTab, encG, encEq, encEd, encI, q_], hK _ _ ?_⟩)) | refine ⟨ob, ?_⟩ | refine ⟨hK _ ?_, fun h => ?_⟩ | refine ⟨?_, ?_⟩); all_goals ((try apply hK); clear hK K))
      all_goals try clear q_
      simp [go_sem]
    | false =>
      have c2 : (x.from_ == p1 && (x.act.from_ == a.from_ && (x.act.to == a.to && x.act.label == a.label))) = false := by
       rw [<- c1]
       simp only [atE, actEq, Bool.and_assoc]
      have q_ := aN hlt <| aN hx <| c2
      repeat' first | refine St.go ?_ | ((with_reducible refine cn ?_ ?_) <;> intro h <;> (try simp [q_] at h) <;> try omega) | (refine Ru.go ?_; intro K hK; simp [go_sem, encTab, encG, encEq, encEd, encI, q_]; (try simp (disch := omega) only [wx, z_i]); (first | apply hK | ((try refine .inl ?_); refine ⟨_, by (repeat' first | exact k1 | exact k2 | refine And.intro ?_ ?_ | simp [go_sem, encTab, encG, encEq, encEd, encI, q_]); first | done | omega, ?_⟩; first | apply hK | (refine ⟨by simp [go_sem, encTab, encG, encEq, encEd, encI, q_], ?_⟩; first | apply hK | refine ⟨by simp [go_sem, encTab, encG, encEq, encEd, encI, q_], hK _ _ ?_⟩)) | refine ⟨ob, ?_⟩ | refine ⟨hK _ ?_, fun h => ?_⟩ | refine ⟨?_, ?_⟩); all_goals ((try apply hK); clear hK K))
      all_goals try clear q_
      refine z_j (n - 1) _ (by omega) ⟨k + 1, by omega, ?_, rfl⟩ ?_
      ·rw [any_succ hlt, h0, hx, c1]; rfl
      ·simp [go_sem, encTab, encG, encEq, encI]
   ·have hkl : t.old.edges.take k = t.old.edges := List.take_of_length_le (by omega)
    rw [hkl] at h0
    have hf := find_none h0
    have hR : afterR t i a = (0, false) := by
     unfold afterR
     rw [hA, hf]
     rfl
    rw [hR]
    repeat' first | refine St.go ?_ | ((with_reducible refine cn ?_ ?_) <;> intro h <;> (try simp [hlt] at h) <;> try omega) | (refine Ru.go ?_; intro K hK; simp [go_sem, hlt, encTab, encG]; (try simp (disch := omega) only [wx, z_i]); (first | apply hK | refine ⟨ob, ?_⟩ | refine ⟨hK _ ?_, fun h => ?_⟩ | refine ⟨?_, ?_⟩); all_goals ((try apply hK); clear hK K))
    simp [go_sem]
  ·have hF : afterR t i a = (0, false) := by
    have : t.pairs[i.toNat]? = none := List.getElem?_eq_none (by omega)
    simp [afterR, afterP, this]
   have n2 : (t.pairs.length : Int) <= i := by omega
   rw [hF]
   repeat' first | refine St.go ?_ | ((with_reducible refine cn ?_ ?_) <;> intro h <;> (try simp [h1, n2] at h) <;> try omega) | (refine Ru.go ?_; intro K hK; simp [go_sem, encTab, encG, encI, h1, n2]; (try simp (disch := omega) only [wx, z_i]); (first | apply hK | refine ⟨ob, ?_⟩ | refine ⟨hK _ ?_, fun h => ?_⟩ | refine ⟨?_, ?_⟩); all_goals ((try apply hK); clear hK K))
   simp [go_sem]
deriving instance DecidableEq for Dcl
theorem f112 (a b : List Dff) (ha : a.length <= 1000000) (hb : b.length <= 1000000) : Impl Tryz.prog 112 [.one (.sl (a.map encDf)), .one (.sl (b.map encDf))] (.one (.one (.bool (decide (a = b))))) := by
 refine impl_w Tryz.func112 z112 Tryz.ntmps112 (by simp) ?_
 simp only [slotsOf]
 conv => arg 2; reduce
 by_cases hab : a.length = b.length
 ·skip
  repeat' first | refine St.go ?_ | ((with_reducible refine cn ?_ ?_) <;> intro h <;> (try simp [hab] at h) <;> try omega) | (refine Ru.go ?_; intro K hK; simp [go_sem, hab]; (try simp (disch := omega) only [wx, z_i]); (first | apply hK | refine ⟨ob, ?_⟩ | refine ⟨hK _ ?_, fun h => ?_⟩ | refine ⟨?_, ?_⟩); all_goals ((try apply hK); clear hK K))
  refine z_k (fun n e => ∃ k : Nat, k + n = b.length /\ a.take k = b.take k /\ e = [(5, .sv (.one (.int .i64 k))), (4, .sv (.one (.bool false))), (0, .sv (.one (.sl (a.map encDf)))), (1, .sv (.one (.sl (b.map encDf))))]) b.length _ ⟨0, by simp, by simp, rfl⟩ (by simp [go_sem]) ?_
  rintro n e ⟨k, hk, htk, rfl⟩
  by_cases hlt : k < a.length
  ·have hlt' : k < b.length := by omega
   repeat' first | refine St.go ?_ | ((with_reducible refine cn ?_ ?_) <;> intro h <;> (try simp [hlt, hlt'] at h) <;> try omega) | (refine Ru.go ?_; intro K hK; simp [go_sem, hlt, hlt', encDf]; (try simp (disch := omega) only [wx, z_i]); (first | apply hK | refine ⟨ob, ?_⟩ | refine ⟨hK _ ?_, fun h => ?_⟩ | refine ⟨?_, ?_⟩); all_goals ((try apply hK); clear hK K))
   ·have hne : a ≠ b := fun e => by
     have e2 : a[k] = b[k] := by simp [e]
     rw [e2] at h
     simp at h
    simp [go_sem, hne]
   ·have hkk : a[k] = b[k] := by
     cases ha' : a[k]; cases hb' : b[k]
     simp_all
    refine z_j (n - 1) _ (by omega) ⟨k + 1, by omega, ?_, rfl⟩ ?_
    ·rw [List.take_succ_eq_append_getElem hlt, List.take_succ_eq_append_getElem hlt', htk, hkk]
    ·simp [go_sem]
  ·have hkl : a.take k = a := List.take_of_length_le (by omega)
   have hkl' : b.take k = b := List.take_of_length_le (by omega)
   have hE : a = b := by rw [<- hkl, <- hkl', htk]
   repeat' first | refine St.go ?_ | ((with_reducible refine cn ?_ ?_) <;> intro h <;> (try simp [hlt] at h) <;> try omega) | (refine Ru.go ?_; intro K hK; simp [go_sem, hlt]; (try simp (disch := omega) only [wx, z_i]); (first | apply hK | refine ⟨ob, ?_⟩ | refine ⟨hK _ ?_, fun h => ?_⟩ | refine ⟨?_, ?_⟩); all_goals ((try apply hK); clear hK K))
   simp [go_sem, hE]
 ·have hne : a ≠ b := fun e => hab (by rw [e])
  repeat' first | refine St.go ?_ | ((with_reducible refine cn ?_ ?_) <;> intro h <;> (try simp [hab] at h) <;> try omega) | (refine Ru.go ?_; intro K hK; simp [go_sem, hab]; (try simp (disch := omega) only [wx, z_i]); (first | apply hK | refine ⟨ob, ?_⟩ | refine ⟨hK _ ?_, fun h => ?_⟩ | refine ⟨?_, ?_⟩); all_goals ((try apply hK); clear hK K))
  simp [go_sem, hne]
theorem f21 (t : Tab) : Impl Tryz.prog 21 [.ag (encTab t)] (.one (.ag (encTab t))) := by
 refine impl_w Tryz.func21 z21 Tryz.ntmps21 (by simp) ?_
 simp only [slotsOf]
 conv => arg 2; reduce
 repeat' first | refine St.go ?_ | (refine Ru.go ?_; intro K hK; simp [go_sem, encTab, encG]; (first | apply hK | refine ⟨ob, ?_⟩ | refine ⟨hK _ ?_, fun h => ?_⟩ | refine ⟨?_, ?_⟩); all_goals ((try apply hK); clear hK K))
 simp [go_sem, encTab, encG]
def few31 (g : Glob) : Bool := fewG g && (decide (g.states <= 15) && decide ((allF g.decls).length <= 24))
theorem few_flds {g : Glob} (h : fewG g = true) : g.decls.length <= 60 /\ ∀ d ∈ g.decls, d.fields.length <= 100 /\ d.diffs.length <= 100 /\ d.equals.length <= 100 := by
 simp only [fewG, fewD, Bool.and_eq_true, decide_eq_true_eq] at h
 obtain ⟨_, h1, h2⟩ := h
 refine ⟨h1, fun d hd => ?_⟩
 obtain ⟨k, hk, he⟩ := List.mem_iff_getElem.1 hd
 have h3 := units_succ hk
 rw [he] at h3
 have h4 : units g.decls (k + 1) <= units g.decls g.decls.length := by
  have : ∀ n, k + 1 + n <= g.decls.length -> units g.decls (k + 1) <= units g.decls (k + 1 + n) := by
   intro n
   induction n with
   | zero => intro _; exact Nat.le_refl _
   | succ n ih =>
     intro hn
     have a1 := ih (by omega)
     have a2 := units_succ (l := g.decls) (k := k + 1 + n) (by omega)
     rw [<- Nat.add_assoc] 
     omega
  have h5 := this (g.decls.length - (k + 1)) (by omega)
  rwa [show k + 1 + (g.decls.length - (k + 1)) = g.decls.length by omega] at h5
 omega
theorem f17 (g : Glob) (hl : g.decls.length <= 1000000000000000) (hp : ∀ d ∈ g.decls, d.fields.length <= 1000000000000000 /\ d.diffs.length <= 1000000000000000 /\ d.equals.length <= 1000000000000000) : Impl Tryz.prog 17 [.ag (encG g)] (.one (.one (.bool (few31 g)))) := by
 have k1 := f10 g hl hp
 simp only [encG] at k1
 refine impl_w Tryz.func17 z17 Tryz.ntmps17 (by simp) ?_
 simp only [slotsOf]
 conv => arg 2; reduce
 cases hf : fewG g with
 | false =>
   have hF : few31 g = false := by simp [few31, hf]
   rw [hF]
   rw [hf] at k1
   repeat' first | refine St.go ?_ | (refine Ru.go ?_; intro K hK; simp [go_sem, encG]; (first | apply hK | ((try refine .inl ?_); refine ⟨_, by (try intro hc); (repeat' first | exact k1 | exact hc | refine And.intro ?_ ?_ | simp [go_sem, encG]); first | done | omega, ?_⟩; first | apply hK | (refine ⟨by simp [go_sem, encG], ?_⟩; apply hK)) | refine ⟨.one (.one (.bool false)), by simp [go_sem, encG], hK _ _ ?_⟩ | refine ⟨ob, ?_⟩ | refine ⟨hK _ ?_, fun h => ?_⟩ | refine ⟨?_, ?_⟩); all_goals ((try apply hK); clear hK K))
   simp [go_sem]
 | true =>
   obtain ⟨q1, q2⟩ := few_flds hf
   have k2 := f41 g.decls (by omega) fun d hd => by have := (q2 d hd).1; omega
   rw [hf] at k1
   obtain ⟨n, hn⟩ : ∃ n, (allF g.decls).length = n := ⟨_, rfl⟩
   have hF : few31 g = (decide (g.states <= 15) && decide ((n : Int) <= 24)) := by
    simp only [few31, hf, hn, Bool.true_and]
    congr 1
    rw [Bool.eq_iff_iff]
    simp
    omega
   rw [hF]
   rw [hn] at k2
   clear hF hn
   by_cases h1 : g.states <= 15
   ·skip
    repeat' first | refine St.go ?_ | (refine Ru.go ?_; intro K hK; simp [go_sem, encG, h1]; (first | apply hK | ((try refine .inl ?_); refine ⟨_, by (try intro hc); (repeat' first | exact k1 | exact k2 | exact hc | refine And.intro ?_ ?_ | simp [go_sem, encG, h1]); first | done | omega, ?_⟩; first | apply hK | (refine ⟨by simp [go_sem, encG, h1], ?_⟩; apply hK)) | refine ⟨.one (.one (.bool false)), by simp [go_sem, encG, h1], hK _ _ ?_⟩ | refine ⟨ob, ?_⟩ | refine ⟨hK _ ?_, fun h => ?_⟩ | refine ⟨?_, ?_⟩); all_goals ((try apply hK); clear hK K))
    simp [go_sem, h1]
   ·skip
    repeat' first | refine St.go ?_ | (refine Ru.go ?_; intro K hK; simp [go_sem, encG, h1]; (first | apply hK | ((try refine .inl ?_); refine ⟨_, by (try intro hc); (repeat' first | exact k1 | exact k2 | exact hc | refine And.intro ?_ ?_ | simp [go_sem, encG, h1]); first | done | omega, ?_⟩; first | apply hK | (refine ⟨by simp [go_sem, encG, h1], ?_⟩; apply hK)) | refine ⟨.one (.one (.bool false)), by simp [go_sem, encG, h1], hK _ _ ?_⟩ | refine ⟨ob, ?_⟩ | refine ⟨hK _ ?_, fun h => ?_⟩ | refine ⟨?_, ?_⟩); all_goals ((try apply hK); clear hK K))
    simp [go_sem, h1]
end Go.Av
