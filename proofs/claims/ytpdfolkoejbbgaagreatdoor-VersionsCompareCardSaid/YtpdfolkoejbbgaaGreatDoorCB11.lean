/- Part of a proof. -/
import Derived.Test.YtpdfolkoejbbgaaGreatDoorCB10
import Derived.Test.YtpdfolkoejbbgaaGreatDoorCB02
set_option linter.unusedVariables false
set_option linter.unusedSimpArgs false
set_option maxHeartbeats 64000000
set_option maxRecDepth 8000
namespace Go.Av
open Go Go.RowKit Go.Proofs
theorem ne_at {α : Type} {a b : List α} {k : Nat} (h1 : k < a.length) (h2 : k < b.length) (h : a[k] ≠ b[k]) : a ≠ b := fun e => h (by simp [e])
theorem f97 (a b : List Dcl) (ha : a.length <= 1000000) (hb : b.length <= 1000000) (ha2 : ∀ d ∈ a, d.fields.length <= 1000000 /\ d.diffs.length <= 1000000 /\ d.equals.length <= 1000000) (hb2 : ∀ d ∈ b, d.fields.length <= 1000000 /\ d.diffs.length <= 1000000 /\ d.equals.length <= 1000000) :
  Impl Tryz.prog 97 [.one (.sl (a.map encD)), .one (.sl (b.map encD))] (.one (.one (.bool (decide (a = b))))) := by
 refine impl_w Tryz.func97 z97 Tryz.ntmps97 (by simp) ?_
 simp only [slotsOf]
 conv => arg 2; reduce
 by_cases hab : a.length = b.length
 ·skip
  repeat' first | refine St.go ?_ | ((with_reducible refine cn ?_ ?_) <;> intro h <;> (try simp [hab] at h) <;> try omega) | (refine Ru.go ?_; intro K hK; simp [go_sem, hab]; (try simp (disch := omega) only [wx, z_i]); (first | apply hK | refine ⟨ob, ?_⟩ | refine ⟨hK _ ?_, fun h => ?_⟩ | refine ⟨?_, ?_⟩); all_goals ((try apply hK); clear hK K))
  refine z_k (fun n e => ∃ k : Nat, k + n = b.length /\ a.take k = b.take k /\ e = [(5, .sv (.one (.int .i64 k))), (4, .sv (.one (.bool false))), (0, .sv (.one (.sl (a.map encD)))), (1, .sv (.one (.sl (b.map encD))))]) b.length _ ⟨0, by simp, by simp, rfl⟩ (by simp [go_sem]) ?_
  rintro n e ⟨k, hk, htk, rfl⟩
  by_cases hlt : k < a.length
  ·have hlt' : k < b.length := by omega
   obtain ⟨x, hx⟩ : ∃ x, a[k] = x := ⟨_, rfl⟩
   obtain ⟨y, hy⟩ : ∃ y, b[k] = y := ⟨_, rfl⟩
   obtain ⟨x1, x2, x3⟩ := ha2 x (hx ▸ List.getElem_mem hlt)
   obtain ⟨y1, y2, y3⟩ := hb2 y (hy ▸ List.getElem_mem hlt')
   have k1 := f112 x.diffs y.diffs x2 y2
   have hF : x ≠ y -> decide (a = b) = false := fun h => by
    have := ne_at hlt hlt' (by rw [hx, hy]; exact h)
    simp [this]
   obtain ⟨R, hR⟩ : ∃ R, decide (a = b) = R := ⟨_, rfl⟩
   rw [hR] at hF ⊢
   by_cases c1 : x.name = y.name
   ·by_cases c2 : x.first = y.first
    ·by_cases c3 : x.fields.length = y.fields.length
     ·by_cases c4 : x.diffs = y.diffs
      ·rw [decide_eq_true c4] at k1
       by_cases c5 : x.equals.length = y.equals.length
       ·skip
        have q_ := aN hlt <| aN hlt' <| aN hx <| aN hy <| aN c1 <| aN c2 <| aN c3 <| c5
        repeat' first | refine St.go ?_ | ((with_reducible refine cn ?_ ?_) <;> intro h <;> (try simp [q_] at h) <;> try omega) | (refine Ru.go ?_; intro K hK; simp [go_sem, encD, bytes_eq, q_]; (try simp (disch := omega) only [wx, z_i]); (first | apply hK | ((try refine .inl ?_); refine ⟨_, by (try intro hc); (repeat' first | exact k1 | exact hc | refine And.intro ?_ ?_ | simp [go_sem, encD, bytes_eq, q_]); first | done | omega, ?_⟩; first | apply hK | (refine ⟨by simp [go_sem, encD, bytes_eq, q_], ?_⟩; first | apply hK | refine ⟨by simp [go_sem, encD, bytes_eq, q_], hK _ _ ?_⟩)) | refine ⟨.one (.one (.bool false)), by simp [go_sem, encD, bytes_eq, q_], hK _ _ ?_⟩ | refine ⟨ob, ?_⟩ | refine ⟨hK _ ?_, fun h => ?_⟩ | refine ⟨?_, ?_⟩); all_goals ((try apply hK); clear hK K))
        all_goals try clear q_
        refine z_k (fun n e => ∃ j : Nat, j + n = y.fields.length /\ x.fields.take j = y.fields.take j /\ e = [(8, .sv (.one (.int .i64 j))), (7, .sv (.one (.bx (encD y)))), (6, .sv (.one (.bx (encD x)))), (5, .sv (.one (.int .i64 k))), (4, .sv (.one (.bool false))), (0, .sv (.one (.sl (a.map encD)))), (1, .sv (.one (.sl (b.map encD))))]) y.fields.length _ ⟨0, by simp, by simp, rfl⟩ (by simp [go_sem, encD, c1, c2]) ?_
        rintro n' e ⟨j, hj, htj, rfl⟩
        by_cases hlj : j < x.fields.length
        ·have hlj' : j < y.fields.length := by omega
         repeat' first | refine St.go ?_ | ((with_reducible refine cn ?_ ?_) <;> intro h <;> (try simp [hlj, hlj'] at h) <;> try omega) | (refine Ru.go ?_; intro K hK; simp [go_sem, hlj, hlj', encD, encF, bytes_eq]; (try simp (disch := omega) only [wx, z_i]); (first | apply hK | refine ⟨ob, ?_⟩ | refine ⟨hK _ ?_, fun h => ?_⟩ | refine ⟨?_, ?_⟩); all_goals ((try apply hK); clear hK K))
         ·have hne : x ≠ y := fun e => by
           have e2 : x.fields[j] = y.fields[j] := by simp [e]
           rw [e2] at h
           simp at h
          simp [go_sem, hF hne]
         ·have hjj : x.fields[j] = y.fields[j] := by
           cases ha' : x.fields[j]; cases hb' : y.fields[j]
           simp_all
          refine z_j (n' - 1) _ (by omega) ⟨j + 1, by omega, ?_, rfl⟩ ?_
          ·rw [List.take_succ_eq_append_getElem hlj, List.take_succ_eq_append_getElem hlj', htj, hjj]
          ·simp [go_sem, encD]
        ·have hfl : x.fields.take j = x.fields := List.take_of_length_le (by omega)
         have hfl' : y.fields.take j = y.fields := List.take_of_length_le (by omega)
         have hE : x.fields = y.fields := by rw [<- hfl, <- hfl', htj]
         clear hfl hfl' htj
         repeat' first | refine St.go ?_ | ((with_reducible refine cn ?_ ?_) <;> intro h <;> (try simp [hlj] at h) <;> try omega) | (refine Ru.go ?_; intro K hK; simp [go_sem, hlj, encD]; (try simp (disch := omega) only [wx, z_i]); (first | apply hK | refine ⟨ob, ?_⟩ | refine ⟨hK _ ?_, fun h => ?_⟩ | refine ⟨?_, ?_⟩); all_goals ((try apply hK); clear hK K))
         clear hlj hj
         refine z_k (fun n e => ∃ j : Nat, j + n = y.equals.length /\ x.equals.take j = y.equals.take j /\ e = [(9, .sv (.one (.int .i64 j))), (7, .sv (.one (.bx (encD y)))), (6, .sv (.one (.bx (encD x)))), (5, .sv (.one (.int .i64 k))), (4, .sv (.one (.bool false))), (0, .sv (.one (.sl (a.map encD)))), (1, .sv (.one (.sl (b.map encD))))]) y.equals.length _ ⟨0, by simp, by simp, rfl⟩ (by simp [go_sem, encD]) ?_
         rintro n'' e ⟨j, hj, htj, rfl⟩
         by_cases hlj : j < x.equals.length
         ·have hlj' : j < y.equals.length := by omega
          obtain ⟨⟨p1, p2⟩, hp⟩ : ∃ p, x.equals[j] = p := ⟨_, rfl⟩
          obtain ⟨⟨q1, q2⟩, hq⟩ : ∃ q, y.equals[j] = q := ⟨_, rfl⟩
          repeat' first | refine St.go ?_ | ((with_reducible refine cn ?_ ?_) <;> intro h <;> (try simp [hlj, hlj', hp, hq] at h) <;> try omega) | (refine Ru.go ?_; intro K hK; simp [go_sem, hlj, hlj', hp, hq, encD, encEq]; (try simp (disch := omega) only [wx, z_i]); (first | apply hK | refine ⟨ob, ?_⟩ | refine ⟨hK _ ?_, fun h => ?_⟩ | refine ⟨?_, ?_⟩); all_goals ((try apply hK); clear hK K))
          ·have hne : x ≠ y := fun e => by
            have e2 : x.equals[j] = y.equals[j] := by simp [e]
            rw [hp, hq] at e2
            injection e2 with e3 e4
            simp [e3, e4] at h
           simp [go_sem, hF hne]
          ·have hjj : x.equals[j] = y.equals[j] := by
            rw [hp, hq]
            simp_all
           refine z_j (n'' - 1) _ (by omega) ⟨j + 1, by omega, ?_, rfl⟩ ?_
           ·rw [List.take_succ_eq_append_getElem hlj, List.take_succ_eq_append_getElem hlj', htj, hjj]
           ·simp [go_sem, encD]
         ·have hfl : x.equals.take j = x.equals := List.take_of_length_le (by omega)
          have hfl' : y.equals.take j = y.equals := List.take_of_length_le (by omega)
          have hE2 : x.equals = y.equals := by rw [<- hfl, <- hfl', htj]
          have hxy : x = y := by
           cases x; cases y
           simp_all
          repeat' first | refine St.go ?_ | ((with_reducible refine cn ?_ ?_) <;> intro h <;> (try simp [hlj] at h) <;> try omega) | (refine Ru.go ?_; intro K hK; simp [go_sem, hlj, encD]; (try simp (disch := omega) only [wx, z_i]); (first | apply hK | refine ⟨ob, ?_⟩ | refine ⟨hK _ ?_, fun h => ?_⟩ | refine ⟨?_, ?_⟩); all_goals ((try apply hK); clear hK K))
          refine z_j (n - 1) _ (by omega) ⟨k + 1, by omega, ?_, rfl⟩ ?_
          ·rw [List.take_succ_eq_append_getElem hlt, List.take_succ_eq_append_getElem hlt', htk, hx, hy, hxy]
          ·simp [go_sem]
       ·have hF' := hF fun e => c5 (by rw [e])
        rw [hF']
        have q_ := aN hlt <| aN hlt' <| aN hx <| aN hy <| aN c1 <| aN c2 <| aN c3 <| c5
        repeat' first | refine St.go ?_ | ((with_reducible refine cn ?_ ?_) <;> intro h <;> (try simp [q_] at h) <;> try omega) | (refine Ru.go ?_; intro K hK; simp [go_sem, encD, bytes_eq, q_]; (try simp (disch := omega) only [wx, z_i]); (first | apply hK | ((try refine .inl ?_); refine ⟨_, by (try intro hc); (repeat' first | exact k1 | exact hc | refine And.intro ?_ ?_ | simp [go_sem, encD, bytes_eq, q_]); first | done | omega, ?_⟩; first | apply hK | (refine ⟨by simp [go_sem, encD, bytes_eq, q_], ?_⟩; first | apply hK | refine ⟨by simp [go_sem, encD, bytes_eq, q_], hK _ _ ?_⟩)) | refine ⟨.one (.one (.bool false)), by simp [go_sem, encD, bytes_eq, q_], hK _ _ ?_⟩ | refine ⟨ob, ?_⟩ | refine ⟨hK _ ?_, fun h => ?_⟩ | refine ⟨?_, ?_⟩); all_goals ((try apply hK); clear hK K))
        all_goals try clear q_
        simp [go_sem]
      ·have hF' := hF fun e => c4 (by rw [e])
       rw [decide_eq_false c4] at k1
       rw [hF']
       have q_ := aN hlt <| aN hlt' <| aN hx <| aN hy <| aN c1 <| aN c2 <| c3
       repeat' first | refine St.go ?_ | ((with_reducible refine cn ?_ ?_) <;> intro h <;> (try simp [q_] at h) <;> try omega) | (refine Ru.go ?_; intro K hK; simp [go_sem, encD, bytes_eq, q_]; (try simp (disch := omega) only [wx, z_i]); (first | apply hK | ((try refine .inl ?_); refine ⟨_, by (try intro hc); (repeat' first | exact k1 | exact hc | refine And.intro ?_ ?_ | simp [go_sem, encD, bytes_eq, q_]); first | done | omega, ?_⟩; first | apply hK | (refine ⟨by simp [go_sem, encD, bytes_eq, q_], ?_⟩; first | apply hK | refine ⟨by simp [go_sem, encD, bytes_eq, q_], hK _ _ ?_⟩)) | refine ⟨.one (.one (.bool false)), by simp [go_sem, encD, bytes_eq, q_], hK _ _ ?_⟩ | refine ⟨ob, ?_⟩ | refine ⟨hK _ ?_, fun h => ?_⟩ | refine ⟨?_, ?_⟩); all_goals ((try apply hK); clear hK K))
       all_goals try clear q_
       simp [go_sem]
     ·have hF' := hF fun e => c3 (by rw [e])
      have c3' : ((x.fields.length : Int) != (y.fields.length : Int)) = true := by rw [bne_iff_ne]; omega
      rw [hF']
      have q_ := aN hlt <| aN hlt' <| aN hx <| aN hy <| aN c1 <| aN c2 <| aN c3 <| c3'
      repeat' first | refine St.go ?_ | ((with_reducible refine cn ?_ ?_) <;> intro h <;> (try simp [q_] at h) <;> try omega) | (refine Ru.go ?_; intro K hK; simp [go_sem, encD, bytes_eq, q_]; (try simp (disch := omega) only [wx, z_i]); (first | apply hK | ((try refine .inl ?_); refine ⟨_, by (try intro hc); (repeat' first | exact k1 | exact hc | refine And.intro ?_ ?_ | simp [go_sem, encD, bytes_eq, q_]); first | done | omega, ?_⟩; first | apply hK | (refine ⟨by simp [go_sem, encD, bytes_eq, q_], ?_⟩; first | apply hK | refine ⟨by simp [go_sem, encD, bytes_eq, q_], hK _ _ ?_⟩)) | refine ⟨.one (.one (.bool false)), by simp [go_sem, encD, bytes_eq, q_], hK _ _ ?_⟩ | refine ⟨ob, ?_⟩ | refine ⟨hK _ ?_, fun h => ?_⟩ | refine ⟨?_, ?_⟩); all_goals ((try apply hK); clear hK K))
      all_goals try clear q_
      simp [go_sem]
    ·have hF' := hF fun e => c2 (by rw [e])
     rw [hF']
     have q_ := aN hlt <| aN hlt' <| aN hx <| aN hy <| aN c1 <| c2
     repeat' first | refine St.go ?_ | ((with_reducible refine cn ?_ ?_) <;> intro h <;> (try simp [q_] at h) <;> try omega) | (refine Ru.go ?_; intro K hK; simp [go_sem, encD, bytes_eq, q_]; (try simp (disch := omega) only [wx, z_i]); (first | apply hK | ((try refine .inl ?_); refine ⟨_, by (try intro hc); (repeat' first | exact k1 | exact hc | refine And.intro ?_ ?_ | simp [go_sem, encD, bytes_eq, q_]); first | done | omega, ?_⟩; first | apply hK | (refine ⟨by simp [go_sem, encD, bytes_eq, q_], ?_⟩; first | apply hK | refine ⟨by simp [go_sem, encD, bytes_eq, q_], hK _ _ ?_⟩)) | refine ⟨.one (.one (.bool false)), by simp [go_sem, encD, bytes_eq, q_], hK _ _ ?_⟩ | refine ⟨ob, ?_⟩ | refine ⟨hK _ ?_, fun h => ?_⟩ | refine ⟨?_, ?_⟩); all_goals ((try apply hK); clear hK K))
     all_goals try clear q_
     simp [go_sem]
   ·have hF' := hF fun e => c1 (by rw [e])
    rw [hF']
    have q_ := aN hlt <| aN hlt' <| aN hx <| aN hy <| c1
    repeat' first | refine St.go ?_ | ((with_reducible refine cn ?_ ?_) <;> intro h <;> (try simp [q_] at h) <;> try omega) | (refine Ru.go ?_; intro K hK; simp [go_sem, encD, bytes_eq, q_]; (try simp (disch := omega) only [wx, z_i]); (first | apply hK | ((try refine .inl ?_); refine ⟨_, by (try intro hc); (repeat' first | exact k1 | exact hc | refine And.intro ?_ ?_ | simp [go_sem, encD, bytes_eq, q_]); first | done | omega, ?_⟩; first | apply hK | (refine ⟨by simp [go_sem, encD, bytes_eq, q_], ?_⟩; first | apply hK | refine ⟨by simp [go_sem, encD, bytes_eq, q_], hK _ _ ?_⟩)) | refine ⟨.one (.one (.bool false)), by simp [go_sem, encD, bytes_eq, q_], hK _ _ ?_⟩ | refine ⟨ob, ?_⟩ | refine ⟨hK _ ?_, fun h => ?_⟩ | refine ⟨?_, ?_⟩); all_goals ((try apply hK); clear hK K))
    all_goals try clear q_
    simp [go_sem]
  ·have hkl : a.take k = a := List.take_of_length_le (by omega)
   have hkl' : b.take k = b := List.take_of_length_le (by omega)
   have hE : a = b := by rw [<- hkl, <- hkl', htk]
   repeat' first | refine St.go ?_ | ((with_reducible refine cn ?_ ?_) <;> intro h <;> (try simp [hlt] at h) <;> try omega) | (refine Ru.go ?_; intro K hK; simp [go_sem, hlt]; (try simp (disch := omega) only [wx, z_i]); (first | apply hK | refine ⟨ob, ?_⟩ | refine ⟨hK _ ?_, fun h => ?_⟩ | refine ⟨?_, ?_⟩); all_goals ((try apply hK); clear hK K))
   simp [go_sem, hE]
 ·have hne : a ≠ b := fun e => hab (by rw [e])
  repeat' first | refine St.go ?_ | ((with_reducible refine cn ?_ ?_) <;> intro h <;> (try simp [hab] at h) <;> try omega) | (refine Ru.go ?_; intro K hK; simp [go_sem, hab]; (try simp (disch := omega) only [wx, z_i]); (first | apply hK | refine ⟨ob, ?_⟩ | refine ⟨hK _ ?_, fun h => ?_⟩ | refine ⟨?_, ?_⟩); all_goals ((try apply hK); clear hK K))
  simp [go_sem, hne]
deriving instance DecidableEq for Glob
theorem f56 (a b : Glob) (ha : a.decls.length <= 1000000) (hb : b.decls.length <= 1000000) (ha2 : ∀ d ∈ a.decls, d.fields.length <= 1000000 /\ d.diffs.length <= 1000000 /\ d.equals.length <= 1000000) (hb2 : ∀ d ∈ b.decls, d.fields.length <= 1000000 /\ d.diffs.length <= 1000000 /\ d.equals.length <= 1000000)
  (hr : a.roles.length <= 1000000) (he : a.edges.length <= 1000000) (ht : a.timeouts.length <= 1000000) (hr' : b.roles.length <= 1000000) (he' : b.edges.length <= 1000000) (ht' : b.timeouts.length <= 1000000) :
  Impl Tryz.prog 56 [.ag (encG a), .ag (encG b)] (.one (.one (.bool (decide (a = b))))) := by
 have k1 := f97 a.decls b.decls ha hb ha2 hb2
 have hF : a ≠ b -> decide (a = b) = false := fun h => decide_eq_false h
 have hT : a = b -> decide (a = b) = true := fun h => decide_eq_true h
 obtain ⟨R, hR⟩ : ∃ R, decide (a = b) = R := ⟨_, rfl⟩
 rw [hR] at hF hT ⊢
 clear hR ha2 hb2
 refine impl_w Tryz.func56 z56 Tryz.ntmps56 (by simp) ?_
 simp only [slotsOf]
 conv => arg 2; reduce
 by_cases c1 : a.name = b.name
 ·skip
  by_cases c2 : a.roles.length = b.roles.length
  ·skip
   by_cases c3 : a.decls = b.decls
   ·rw [decide_eq_true c3] at k1
    by_cases c4 : a.states = b.states
    ·skip
     by_cases c5 : a.start = b.start
     ·skip
      by_cases c6 : a.end_ = b.end_
      ·skip
       by_cases c7 : a.edges.length = b.edges.length
       ·skip
        by_cases c8 : a.timeouts.length = b.timeouts.length
        ·skip
         have q_ := aN c1 <| aN c2 <| aN c4 <| aN c5 <| aN c6 <| aN c7 <| c8
         repeat' first | refine St.go ?_ | ((with_reducible refine cn ?_ ?_) <;> intro h <;> (try simp [q_] at h) <;> try omega) | (refine Ru.go ?_; intro K hK; simp [go_sem, encG, bytes_eq, q_]; (try simp (disch := omega) only [wx, z_i]); (first | apply hK | ((try refine .inl ?_); refine ⟨_, by (try intro hc); (repeat' first | exact k1 | exact hc | refine And.intro ?_ ?_ | simp [go_sem, encG, bytes_eq, q_]); first | done | omega, ?_⟩; first | apply hK | (refine ⟨by simp [go_sem, encG, bytes_eq, q_], ?_⟩; first | apply hK | refine ⟨by simp [go_sem, encG, bytes_eq, q_], hK _ _ ?_⟩)) | refine ⟨.one (.one (.bool false)), by simp [go_sem, encG, bytes_eq, q_], hK _ _ ?_⟩ | refine ⟨ob, ?_⟩ | refine ⟨hK _ ?_, fun h => ?_⟩ | refine ⟨?_, ?_⟩); all_goals ((try apply hK); clear hK K))
         all_goals try clear q_
         refine z_k (fun n e => ∃ k : Nat, k + n = b.roles.length /\ a.roles.take k = b.roles.take k /\ e = [(5, .sv (.one (.int .i64 k))), (4, .sv (.one (.bool false))), (3, .sv (.one (.bx (encG b)))), (2, .sv (.one (.bx (encG a))))]) b.roles.length _ ⟨0, by simp, by simp, rfl⟩ (by simp [go_sem, encG, c1, c2, c4, c5, c6, c7, c8]) ?_
         rintro n e ⟨k, hk, htk, rfl⟩
         by_cases hlt : k < a.roles.length
         ·have hlt' : k < b.roles.length := by omega
          repeat' first | refine St.go ?_ | ((with_reducible refine cn ?_ ?_) <;> intro h <;> (try simp [hlt, hlt'] at h) <;> try omega) | (refine Ru.go ?_; intro K hK; simp [go_sem, hlt, hlt', encG, encS, bytes_eq]; (try simp (disch := omega) only [wx, z_i]); (first | apply hK | refine ⟨ob, ?_⟩ | refine ⟨hK _ ?_, fun h => ?_⟩ | refine ⟨?_, ?_⟩); all_goals ((try apply hK); clear hK K))
          ·have hne : a ≠ b := fun e => by
            have e2 : a.roles[k] = b.roles[k] := by simp [e]
            rw [e2] at h
            simp at h
           simp [go_sem, hF hne]
          ·have hkk : a.roles[k] = b.roles[k] := by
            simp_all
           refine z_j (n - 1) _ (by omega) ⟨k + 1, by omega, ?_, rfl⟩ ?_
           ·rw [List.take_succ_eq_append_getElem hlt, List.take_succ_eq_append_getElem hlt', htk, hkk]
           ·simp [go_sem, encG]
         ·have hkl : a.roles.take k = a.roles := List.take_of_length_le (by omega)
          have hkl' : b.roles.take k = b.roles := List.take_of_length_le (by omega)
          have E1 : a.roles = b.roles := by rw [<- hkl, <- hkl', htk]
          clear hkl hkl' htk
          repeat' first | refine St.go ?_ | ((with_reducible refine cn ?_ ?_) <;> intro h <;> (try simp [hlt] at h) <;> try omega) | (refine Ru.go ?_; intro K hK; simp [go_sem, hlt, encG]; (try simp (disch := omega) only [wx, z_i]); (first | apply hK | refine ⟨ob, ?_⟩ | refine ⟨hK _ ?_, fun h => ?_⟩ | refine ⟨?_, ?_⟩); all_goals ((try apply hK); clear hK K))
          clear hlt hk
          refine z_k (fun n e => ∃ k : Nat, k + n = b.edges.length /\ a.edges.take k = b.edges.take k /\ e = [(6, .sv (.one (.int .i64 k))), (4, .sv (.one (.bool false))), (3, .sv (.one (.bx (encG b)))), (2, .sv (.one (.bx (encG a))))]) b.edges.length _ ⟨0, by simp, by simp, rfl⟩ (by simp [go_sem, encG, c1, c2, c4, c5, c6, c7, c8]) ?_
          rintro n e ⟨k, hk, htk, rfl⟩
          by_cases hlt : k < a.edges.length
          ·have hlt' : k < b.edges.length := by omega
           repeat' first | refine St.go ?_ | ((with_reducible refine cn ?_ ?_) <;> intro h <;> (try simp [hlt, hlt'] at h) <;> try omega) | (refine Ru.go ?_; intro K hK; simp [go_sem, hlt, hlt', encG, encEd, bytes_eq]; (try simp (disch := omega) only [wx, z_i]); (first | apply hK | refine ⟨ob, ?_⟩ | refine ⟨hK _ ?_, fun h => ?_⟩ | refine ⟨?_, ?_⟩); all_goals ((try apply hK); clear hK K))
           ·have hne : a ≠ b := fun e => by
             have e2 : a.edges[k] = b.edges[k] := by simp [e]
             rw [e2] at h
             simp at h
            simp [go_sem, hF hne]
           ·have hkk : a.edges[k] = b.edges[k] := by
             obtain ⟨u1, ⟨u2, u3, u4⟩, u5, u6⟩ : a.edges[k].from_ = b.edges[k].from_ /\ (a.edges[k].act.from_ = b.edges[k].act.from_ /\ a.edges[k].act.to = b.edges[k].act.to /\ a.edges[k].act.label = b.edges[k].act.label) /\ a.edges[k].to = b.edges[k].to /\ a.edges[k].again = b.edges[k].again := by simp_all
             generalize a.edges[k] = p at *
             generalize b.edges[k] = q at *
             obtain ⟨p1, ⟨p2, p3, p4⟩, p5, p6⟩ := p
             obtain ⟨q1, ⟨q2, q3, q4⟩, q5, q6⟩ := q
             simp only at u1 u2 u3 u4 u5 u6
             rw [u1, u2, u3, u4, u5, u6]
            refine z_j (n - 1) _ (by omega) ⟨k + 1, by omega, ?_, rfl⟩ ?_
            ·rw [List.take_succ_eq_append_getElem hlt, List.take_succ_eq_append_getElem hlt', htk, hkk]
            ·simp [go_sem, encG]
          ·have hkl : a.edges.take k = a.edges := List.take_of_length_le (by omega)
           have hkl' : b.edges.take k = b.edges := List.take_of_length_le (by omega)
           have E2 : a.edges = b.edges := by rw [<- hkl, <- hkl', htk]
           clear hkl hkl' htk
           repeat' first | refine St.go ?_ | ((with_reducible refine cn ?_ ?_) <;> intro h <;> (try simp [hlt] at h) <;> try omega) | (refine Ru.go ?_; intro K hK; simp [go_sem, hlt, encG]; (try simp (disch := omega) only [wx, z_i]); (first | apply hK | refine ⟨ob, ?_⟩ | refine ⟨hK _ ?_, fun h => ?_⟩ | refine ⟨?_, ?_⟩); all_goals ((try apply hK); clear hK K))
           clear hlt hk
           refine z_k (fun n e => ∃ k : Nat, k + n = b.timeouts.length /\ a.timeouts.take k = b.timeouts.take k /\ e = [(7, .sv (.one (.int .i64 k))), (4, .sv (.one (.bool false))), (3, .sv (.one (.bx (encG b)))), (2, .sv (.one (.bx (encG a))))]) b.timeouts.length _ ⟨0, by simp, by simp, rfl⟩ (by simp [go_sem, encG, c1, c2, c4, c5, c6, c7, c8]) ?_
           rintro n e ⟨k, hk, htk, rfl⟩
           by_cases hlt : k < a.timeouts.length
           ·have hlt' : k < b.timeouts.length := by omega
            repeat' first | refine St.go ?_ | ((with_reducible refine cn ?_ ?_) <;> intro h <;> (try simp [hlt, hlt'] at h) <;> try omega) | (refine Ru.go ?_; intro K hK; simp [go_sem, hlt, hlt', encG, encT, bytes_eq]; (try simp (disch := omega) only [wx, z_i]); (first | apply hK | refine ⟨ob, ?_⟩ | refine ⟨hK _ ?_, fun h => ?_⟩ | refine ⟨?_, ?_⟩); all_goals ((try apply hK); clear hK K))
            ·have hne : a ≠ b := fun e => by
              have e2 : a.timeouts[k] = b.timeouts[k] := by simp [e]
              rw [e2] at h
              simp at h
             simp [go_sem, hF hne]
            ·have hkk : a.timeouts[k] = b.timeouts[k] := by
              cases ha' : a.timeouts[k]; cases hb' : b.timeouts[k]
              simp_all
             refine z_j (n - 1) _ (by omega) ⟨k + 1, by omega, ?_, rfl⟩ ?_
             ·rw [List.take_succ_eq_append_getElem hlt, List.take_succ_eq_append_getElem hlt', htk, hkk]
             ·simp [go_sem, encG]
           ·have hkl : a.timeouts.take k = a.timeouts := List.take_of_length_le (by omega)
            have hkl' : b.timeouts.take k = b.timeouts := List.take_of_length_le (by omega)
            have E3 : a.timeouts = b.timeouts := by rw [<- hkl, <- hkl', htk]
            clear hkl hkl' htk
            have hab : a = b := by
             cases a; cases b
             simp_all
            rw [hT hab]
            repeat' first | refine St.go ?_ | ((with_reducible refine cn ?_ ?_) <;> intro h <;> (try simp [hlt] at h) <;> try omega) | (refine Ru.go ?_; intro K hK; simp [go_sem, hlt, encG]; (try simp (disch := omega) only [wx, z_i]); (first | apply hK | refine ⟨ob, ?_⟩ | refine ⟨hK _ ?_, fun h => ?_⟩ | refine ⟨?_, ?_⟩); all_goals ((try apply hK); clear hK K))
            simp [go_sem]
        ·have hF' := hF fun e => c8 (by rw [e])
         have c8' : ((a.timeouts.length : Int) != (b.timeouts.length : Int)) = true := by rw [bne_iff_ne]; omega
         rw [hF']
         have q_ := aN c1 <| aN c2 <| aN c4 <| aN c5 <| aN c6 <| aN c7 <| aN c8 <| c8'
         repeat' first | refine St.go ?_ | ((with_reducible refine cn ?_ ?_) <;> intro h <;> (try simp [q_] at h) <;> try omega) | (refine Ru.go ?_; intro K hK; simp [go_sem, encG, bytes_eq, q_]; (try simp (disch := omega) only [wx, z_i]); (first | apply hK | ((try refine .inl ?_); refine ⟨_, by (try intro hc); (repeat' first | exact k1 | exact hc | refine And.intro ?_ ?_ | simp [go_sem, encG, bytes_eq, q_]); first | done | omega, ?_⟩; first | apply hK | (refine ⟨by simp [go_sem, encG, bytes_eq, q_], ?_⟩; first | apply hK | refine ⟨by simp [go_sem, encG, bytes_eq, q_], hK _ _ ?_⟩)) | refine ⟨.one (.one (.bool false)), by simp [go_sem, encG, bytes_eq, q_], hK _ _ ?_⟩ | refine ⟨ob, ?_⟩ | refine ⟨hK _ ?_, fun h => ?_⟩ | refine ⟨?_, ?_⟩); all_goals ((try apply hK); clear hK K))
         all_goals try clear q_
         simp [go_sem]
       ·have hF' := hF fun e => c7 (by rw [e])
        have c7' : ((a.edges.length : Int) != (b.edges.length : Int)) = true := by rw [bne_iff_ne]; omega
        rw [hF']
        have q_ := aN c1 <| aN c2 <| aN c4 <| aN c5 <| aN c6 <| aN c7 <| c7'
        repeat' first | refine St.go ?_ | ((with_reducible refine cn ?_ ?_) <;> intro h <;> (try simp [q_] at h) <;> try omega) | (refine Ru.go ?_; intro K hK; simp [go_sem, encG, bytes_eq, q_]; (try simp (disch := omega) only [wx, z_i]); (first | apply hK | ((try refine .inl ?_); refine ⟨_, by (try intro hc); (repeat' first | exact k1 | exact hc | refine And.intro ?_ ?_ | simp [go_sem, encG, bytes_eq, q_]); first | done | omega, ?_⟩; first | apply hK | (refine ⟨by simp [go_sem, encG, bytes_eq, q_], ?_⟩; first | apply hK | refine ⟨by simp [go_sem, encG, bytes_eq, q_], hK _ _ ?_⟩)) | refine ⟨.one (.one (.bool false)), by simp [go_sem, encG, bytes_eq, q_], hK _ _ ?_⟩ | refine ⟨ob, ?_⟩ | refine ⟨hK _ ?_, fun h => ?_⟩ | refine ⟨?_, ?_⟩); all_goals ((try apply hK); clear hK K))
        all_goals try clear q_
        simp [go_sem]
      ·have hF' := hF fun e => c6 (by rw [e])
       rw [hF']
       have q_ := aN c1 <| aN c2 <| aN c4 <| aN c5 <| c6
       repeat' first | refine St.go ?_ | ((with_reducible refine cn ?_ ?_) <;> intro h <;> (try simp [q_] at h) <;> try omega) | (refine Ru.go ?_; intro K hK; simp [go_sem, encG, bytes_eq, q_]; (try simp (disch := omega) only [wx, z_i]); (first | apply hK | ((try refine .inl ?_); refine ⟨_, by (try intro hc); (repeat' first | exact k1 | exact hc | refine And.intro ?_ ?_ | simp [go_sem, encG, bytes_eq, q_]); first | done | omega, ?_⟩; first | apply hK | (refine ⟨by simp [go_sem, encG, bytes_eq, q_], ?_⟩; first | apply hK | refine ⟨by simp [go_sem, encG, bytes_eq, q_], hK _ _ ?_⟩)) | refine ⟨.one (.one (.bool false)), by simp [go_sem, encG, bytes_eq, q_], hK _ _ ?_⟩ | refine ⟨ob, ?_⟩ | refine ⟨hK _ ?_, fun h => ?_⟩ | refine ⟨?_, ?_⟩); all_goals ((try apply hK); clear hK K))
       all_goals try clear q_
       simp [go_sem]
     ·have hF' := hF fun e => c5 (by rw [e])
      rw [hF']
      have q_ := aN c1 <| aN c2 <| aN c4 <| c5
      repeat' first | refine St.go ?_ | ((with_reducible refine cn ?_ ?_) <;> intro h <;> (try simp [q_] at h) <;> try omega) | (refine Ru.go ?_; intro K hK; simp [go_sem, encG, bytes_eq, q_]; (try simp (disch := omega) only [wx, z_i]); (first | apply hK | ((try refine .inl ?_); refine ⟨_, by (try intro hc); (repeat' first | exact k1 | exact hc | refine And.intro ?_ ?_ | simp [go_sem, encG, bytes_eq, q_]); first | done | omega, ?_⟩; first | apply hK | (refine ⟨by simp [go_sem, encG, bytes_eq, q_], ?_⟩; first | apply hK | refine ⟨by simp [go_sem, encG, bytes_eq, q_], hK _ _ ?_⟩)) | refine ⟨.one (.one (.bool false)), by simp [go_sem, encG, bytes_eq, q_], hK _ _ ?_⟩ | refine ⟨ob, ?_⟩ | refine ⟨hK _ ?_, fun h => ?_⟩ | refine ⟨?_, ?_⟩); all_goals ((try apply hK); clear hK K))
      all_goals try clear q_
      simp [go_sem]
    ·have hF' := hF fun e => c4 (by rw [e])
     rw [hF']
     repeat' first | refine St.go ?_ | ((with_reducible refine cn ?_ ?_) <;> intro h <;> (try simp [c1, c2, c4] at h) <;> try omega) | (refine Ru.go ?_; intro K hK; simp [go_sem, encG, c1, c2, c4, bytes_eq]; (try simp (disch := omega) only [wx, z_i]); (first | apply hK | ((try refine .inl ?_); refine ⟨_, by (try intro hc); (repeat' first | exact k1 | exact hc | refine And.intro ?_ ?_ | simp [go_sem, encG, c1, c2, c4, bytes_eq]); first | done | omega, ?_⟩; first | apply hK | (refine ⟨by simp [go_sem, encG, c1, c2, c4, bytes_eq], ?_⟩; first | apply hK | refine ⟨by simp [go_sem, encG, c1, c2, c4, bytes_eq], hK _ _ ?_⟩)) | refine ⟨.one (.one (.bool false)), by simp [go_sem, encG, c1, c2, c4, bytes_eq], hK _ _ ?_⟩ | refine ⟨ob, ?_⟩ | refine ⟨hK _ ?_, fun h => ?_⟩ | refine ⟨?_, ?_⟩); all_goals ((try apply hK); clear hK K))
     simp [go_sem]
   ·have hF' := hF fun e => c3 (by rw [e])
    rw [decide_eq_false c3] at k1
    rw [hF']
    repeat' first | refine St.go ?_ | ((with_reducible refine cn ?_ ?_) <;> intro h <;> (try simp [c1, c2] at h) <;> try omega) | (refine Ru.go ?_; intro K hK; simp [go_sem, encG, c1, c2, bytes_eq]; (try simp (disch := omega) only [wx, z_i]); (first | apply hK | ((try refine .inl ?_); refine ⟨_, by (try intro hc); (repeat' first | exact k1 | exact hc | refine And.intro ?_ ?_ | simp [go_sem, encG, c1, c2, bytes_eq]); first | done | omega, ?_⟩; first | apply hK | (refine ⟨by simp [go_sem, encG, c1, c2, bytes_eq], ?_⟩; first | apply hK | refine ⟨by simp [go_sem, encG, c1, c2, bytes_eq], hK _ _ ?_⟩)) | refine ⟨.one (.one (.bool false)), by simp [go_sem, encG, c1, c2, bytes_eq], hK _ _ ?_⟩ | refine ⟨ob, ?_⟩ | refine ⟨hK _ ?_, fun h => ?_⟩ | refine ⟨?_, ?_⟩); all_goals ((try apply hK); clear hK K))
    simp [go_sem]
  ·have hF' := hF fun e => c2 (by rw [e])
   have c2' : ((a.roles.length : Int) != (b.roles.length : Int)) = true := by rw [bne_iff_ne]; omega
   rw [hF']
   have q_ := aN c1 <| aN c2 <| c2'
   repeat' first | refine St.go ?_ | ((with_reducible refine cn ?_ ?_) <;> intro h <;> (try simp [q_] at h) <;> try omega) | (refine Ru.go ?_; intro K hK; simp [go_sem, encG, bytes_eq, q_]; (try simp (disch := omega) only [wx, z_i]); (first | apply hK | ((try refine .inl ?_); refine ⟨_, by (try intro hc); (repeat' first | exact k1 | exact hc | refine And.intro ?_ ?_ | simp [go_sem, encG, bytes_eq, q_]); first | done | omega, ?_⟩; first | apply hK | (refine ⟨by simp [go_sem, encG, bytes_eq, q_], ?_⟩; first | apply hK | refine ⟨by simp [go_sem, encG, bytes_eq, q_], hK _ _ ?_⟩)) | refine ⟨.one (.one (.bool false)), by simp [go_sem, encG, bytes_eq, q_], hK _ _ ?_⟩ | refine ⟨ob, ?_⟩ | refine ⟨hK _ ?_, fun h => ?_⟩ | refine ⟨?_, ?_⟩); all_goals ((try apply hK); clear hK K))
   all_goals try clear q_
   simp [go_sem]
 ·have hF' := hF fun e => c1 (by rw [e])
  rw [hF']
  repeat' first | refine St.go ?_ | ((with_reducible refine cn ?_ ?_) <;> intro h <;> (try simp [c1] at h) <;> try omega) | (refine Ru.go ?_; intro K hK; simp [go_sem, encG, c1, bytes_eq]; (try simp (disch := omega) only [wx, z_i]); (first | apply hK | ((try refine .inl ?_); refine ⟨_, by (try intro hc); (repeat' first | exact k1 | exact hc | refine And.intro ?_ ?_ | simp [go_sem, encG, c1, bytes_eq]); first | done | omega, ?_⟩; first | apply hK | (refine ⟨by simp [go_sem, encG, c1, bytes_eq], ?_⟩; first | apply hK | refine ⟨by simp [go_sem, encG, c1, bytes_eq], hK _ _ ?_⟩)) | refine ⟨.one (.one (.bool false)), by simp [go_sem, encG, c1, bytes_eq], hK _ _ ?_⟩ | refine ⟨ob, ?_⟩ | refine ⟨hK _ ?_, fun h => ?_⟩ | refine ⟨?_, ?_⟩); all_goals ((try apply hK); clear hK K))
  simp [go_sem]
deriving instance DecidableEq for Tab
def MedG (g : Glob) : Prop := g.decls.length <= 1000000 /\ (∀ d ∈ g.decls, d.fields.length <= 1000000 /\ d.diffs.length <= 1000000 /\ d.equals.length <= 1000000) /\ g.roles.length <= 1000000 /\ g.edges.length <= 1000000 /\ g.timeouts.length <= 1000000
theorem g56 (a b : Glob) (ha : MedG a) (hb : MedG b) : Impl Tryz.prog 56 [.ag (encG a), .ag (encG b)] (.one (.one (.bool (decide (a = b))))) :=
 f56 a b ha.1 hb.1 ha.2.1 hb.2.1 ha.2.2.1 ha.2.2.2.1 ha.2.2.2.2 hb.2.2.1 hb.2.2.2.1 hb.2.2.2.2
theorem f20 (a b : Tab) (h1 : MedG a.old) (h2 : MedG a.new) (h3 : MedG b.old) (h4 : MedG b.new) (hl : a.labels.length <= 1000000) (hp : a.pairs.length <= 1000000) (hl' : b.labels.length <= 1000000) (hp' : b.pairs.length <= 1000000) (hg : a.pairs.length = a.good.length) :
  Impl Tryz.prog 20 [.ag (encTab a), .ag (encTab b)] (.one (.one (.bool (decide (a = b))))) := by
 have k1 := g56 a.old b.old h1 h3
 have k2 := g56 a.new b.new h2 h4
 simp only [encG] at k1 k2
 have hF : a ≠ b -> decide (a = b) = false := fun h => decide_eq_false h
 have hT : a = b -> decide (a = b) = true := fun h => decide_eq_true h
 obtain ⟨R, hR⟩ : ∃ R, decide (a = b) = R := ⟨_, rfl⟩
 rw [hR] at hF hT ⊢
 clear hR h1 h2 h3 h4
 refine impl_w Tryz.func20 z20 Tryz.ntmps20 (by simp) ?_
 simp only [slotsOf]
 conv => arg 2; reduce
 by_cases c1 : a.old = b.old
 ·rw [decide_eq_true c1] at k1
  by_cases c2 : a.new = b.new
  ·rw [decide_eq_true c2] at k2
   by_cases c3 : a.labels.length = b.labels.length
   ·skip
    by_cases c4 : a.pairs.length = b.pairs.length
    ·skip
     by_cases c5 : a.good.length = b.good.length
     ·skip
      repeat' first | refine St.go ?_ | ((with_reducible refine cn ?_ ?_) <;> intro h <;> (try simp [c3, c4, c5] at h) <;> try omega) | (refine Ru.go ?_; intro K hK; simp [go_sem, encTab, encG, c3, c4, c5]; (try simp (disch := omega) only [wx, z_i]); (first | apply hK | ((try refine .inl ?_); refine ⟨_, by (try intro hc); (repeat' first | exact k1 | exact k2 | exact hc | refine And.intro ?_ ?_ | simp [go_sem, encTab, encG, c3, c4, c5]); first | done | omega, ?_⟩; first | apply hK | (refine ⟨by simp [go_sem, encTab, encG, c3, c4, c5], ?_⟩; first | apply hK | refine ⟨by simp [go_sem, encTab, encG, c3, c4, c5], hK _ _ ?_⟩)) | refine ⟨.one (.one (.bool false)), by simp [go_sem, encTab, encG, c3, c4, c5], hK _ _ ?_⟩ | refine ⟨ob, ?_⟩ | refine ⟨hK _ ?_, fun h => ?_⟩ | refine ⟨?_, ?_⟩); all_goals ((try apply hK); clear hK K))
      refine z_k (fun n e => ∃ k : Nat, k + n = b.labels.length /\ a.labels.take k = b.labels.take k /\ e = [(5, .sv (.one (.int .i64 k))), (4, .sv (.one (.bool false))), (3, .sv (.one (.bx (encTab b)))), (2, .sv (.one (.bx (encTab a))))]) b.labels.length _ ⟨0, by simp, by simp, rfl⟩ (by simp [go_sem, encTab, encG, c3, c4, c5]) ?_
      rintro n e ⟨k, hk, htk, rfl⟩
      by_cases hlt : k < a.labels.length
      ·have hlt' : k < b.labels.length := by omega
       repeat' first | refine St.go ?_ | ((with_reducible refine cn ?_ ?_) <;> intro h <;> (try simp [hlt, hlt'] at h) <;> try omega) | (refine Ru.go ?_; intro K hK; simp [go_sem, hlt, hlt', encTab, encG, encN]; (try simp (disch := omega) only [wx, z_i]); (first | apply hK | refine ⟨ob, ?_⟩ | refine ⟨hK _ ?_, fun h => ?_⟩ | refine ⟨?_, ?_⟩); all_goals ((try apply hK); clear hK K))
       ·have hne : a ≠ b := fun e => by
         have e2 : a.labels[k] = b.labels[k] := by simp [e]
         rw [e2] at h
         simp at h
        simp [go_sem, hF hne]
       ·have hkk : a.labels[k] = b.labels[k] := by
         simp_all
        refine z_j (n - 1) _ (by omega) ⟨k + 1, by omega, ?_, rfl⟩ ?_
        ·rw [List.take_succ_eq_append_getElem hlt, List.take_succ_eq_append_getElem hlt', htk, hkk]
        ·simp [go_sem, encTab, encG]
      ·have hkl : a.labels.take k = a.labels := List.take_of_length_le (by omega)
       have hkl' : b.labels.take k = b.labels := List.take_of_length_le (by omega)
       have E1 : a.labels = b.labels := by rw [<- hkl, <- hkl', htk]
       clear hkl hkl' htk
       repeat' first | refine St.go ?_ | ((with_reducible refine cn ?_ ?_) <;> intro h <;> (try simp [hlt] at h) <;> try omega) | (refine Ru.go ?_; intro K hK; simp [go_sem, hlt, encTab, encG]; (try simp (disch := omega) only [wx, z_i]); (first | apply hK | refine ⟨ob, ?_⟩ | refine ⟨hK _ ?_, fun h => ?_⟩ | refine ⟨?_, ?_⟩); all_goals ((try apply hK); clear hK K))
       clear hlt hk
       refine z_k (fun n e => ∃ k : Nat, k + n = b.pairs.length /\ (a.pairs.take k = b.pairs.take k /\ a.good.take k = b.good.take k) /\ e = [(6, .sv (.one (.int .i64 k))), (4, .sv (.one (.bool false))), (3, .sv (.one (.bx (encTab b)))), (2, .sv (.one (.bx (encTab a))))]) b.pairs.length _ ⟨0, by simp, by simp, rfl⟩ (by simp [go_sem, encTab, encG, c3, c4, c5]) ?_
       rintro n e ⟨k, hk, ⟨htk, htg⟩, rfl⟩
       by_cases hlt : k < a.pairs.length
       ·have hlt' : k < b.pairs.length := by omega
        have hlg : k < a.good.length := by omega
        have hlg' : k < b.good.length := by omega
        have hng : ¬ (a.good.length : Int) <= (k : Int) := by omega
        obtain ⟨⟨p1, p2⟩, hp⟩ : ∃ p, a.pairs[k] = p := ⟨_, rfl⟩
        obtain ⟨⟨q1, q2⟩, hq⟩ : ∃ q, b.pairs[k] = q := ⟨_, rfl⟩
        obtain ⟨u, hu⟩ : ∃ u, a.good[k] = u := ⟨_, rfl⟩
        obtain ⟨v, hv⟩ : ∃ v, b.good[k] = v := ⟨_, rfl⟩
        cases d0 : (p1 == q1 && p2 == q2) with
        | false =>
          have hne : a ≠ b := fun e => by
           have e2 : a.pairs[k] = b.pairs[k] := by simp [e]
           rw [hp, hq] at e2
           injection e2 with e3 e4
           simp [e3, e4] at d0
          rw [hF hne]
          have q_ := aN hlt <| aN hlt' <| aN hlg <| aN hlg' <| aN hng <| aN hp <| aN hq <| aN hu <| aN hv <| d0
          repeat' first | refine St.go ?_ | ((with_reducible refine cn ?_ ?_) <;> intro h <;> (try simp [q_] at h) <;> try omega) | (refine Ru.go ?_; intro K hK; simp [go_sem, encTab, encG, encEq, encBl, q_]; (try simp (disch := omega) only [wx, z_i]); (first | apply hK | refine ⟨ob, ?_⟩ | refine ⟨hK _ ?_, fun h => ?_⟩ | refine ⟨?_, ?_⟩); all_goals ((try apply hK); clear hK K))
          all_goals try clear q_
          simp [go_sem]
        | true =>
          simp only [Bool.and_eq_true, beq_iff_eq] at d0
          obtain ⟨d1, d2⟩ := d0
          subst d1 d2
          by_cases d3 : u = v
          ·subst d3
           have q_ := aN hlt <| aN hlt' <| aN hlg <| aN hlg' <| aN hng <| aN hp <| aN hq <| aN hu <| hv
           repeat' first | refine St.go ?_ | ((with_reducible refine cn ?_ ?_) <;> intro h <;> (try simp [q_] at h) <;> try omega) | (refine Ru.go ?_; intro K hK; simp [go_sem, encTab, encG, encEq, encBl, q_]; (try simp (disch := omega) only [wx, z_i]); (first | apply hK | refine ⟨ob, ?_⟩ | refine ⟨hK _ ?_, fun h => ?_⟩ | refine ⟨?_, ?_⟩); all_goals ((try apply hK); clear hK K))
           all_goals try clear q_
           refine z_j (n - 1) _ (by omega) ⟨k + 1, by omega, ⟨?_, ?_⟩, rfl⟩ ?_
           ·rw [List.take_succ_eq_append_getElem hlt, List.take_succ_eq_append_getElem hlt', htk, hp, hq]
           ·rw [List.take_succ_eq_append_getElem hlg, List.take_succ_eq_append_getElem hlg', htg, hu, hv]
           ·simp [go_sem, encTab, encG]
          ·have hne : a ≠ b := fun e => d3 (by rw [<- hu, <- hv]; simp [e])
           rw [hF hne]
           have q_ := aN hlt <| aN hlt' <| aN hlg <| aN hlg' <| aN hng <| aN hp <| aN hq <| aN hu <| aN hv <| d3
           repeat' first | refine St.go ?_ | ((with_reducible refine cn ?_ ?_) <;> intro h <;> (try simp [q_] at h) <;> try omega) | (refine Ru.go ?_; intro K hK; simp [go_sem, encTab, encG, encEq, encBl, q_]; (try simp (disch := omega) only [wx, z_i]); (first | apply hK | refine ⟨ob, ?_⟩ | refine ⟨hK _ ?_, fun h => ?_⟩ | refine ⟨?_, ?_⟩); all_goals ((try apply hK); clear hK K))
           all_goals try clear q_
           simp [go_sem]
       ·have hkl : a.pairs.take k = a.pairs := List.take_of_length_le (by omega)
        have hkl' : b.pairs.take k = b.pairs := List.take_of_length_le (by omega)
        have hgl : a.good.take k = a.good := List.take_of_length_le (by omega)
        have hgl' : b.good.take k = b.good := List.take_of_length_le (by omega)
        have E2 : a.pairs = b.pairs := by rw [<- hkl, <- hkl', htk]
        have E3 : a.good = b.good := by rw [<- hgl, <- hgl', htg]
        have hab : a = b := by
         cases a; cases b
         simp_all
        rw [hT hab]
        repeat' first | refine St.go ?_ | ((with_reducible refine cn ?_ ?_) <;> intro h <;> (try simp [hlt] at h) <;> try omega) | (refine Ru.go ?_; intro K hK; simp [go_sem, hlt, encTab, encG]; (try simp (disch := omega) only [wx, z_i]); (first | apply hK | refine ⟨ob, ?_⟩ | refine ⟨hK _ ?_, fun h => ?_⟩ | refine ⟨?_, ?_⟩); all_goals ((try apply hK); clear hK K))
        simp [go_sem]
     ·have hF' := hF fun e => c5 (by rw [e])
      have c5' : ((a.good.length : Int) != (b.good.length : Int)) = true := by rw [bne_iff_ne]; omega
      rw [hF']
      have q_ := aN c3 <| aN c4 <| aN c5 <| c5'
      repeat' first | refine St.go ?_ | ((with_reducible refine cn ?_ ?_) <;> intro h <;> (try simp [q_] at h) <;> try omega) | (refine Ru.go ?_; intro K hK; simp [go_sem, encTab, encG, q_]; (try simp (disch := omega) only [wx, z_i]); (first | apply hK | ((try refine .inl ?_); refine ⟨_, by (try intro hc); (repeat' first | exact k1 | exact k2 | exact hc | refine And.intro ?_ ?_ | simp [go_sem, encTab, encG, q_]); first | done | omega, ?_⟩; first | apply hK | (refine ⟨by simp [go_sem, encTab, encG, q_], ?_⟩; first | apply hK | refine ⟨by simp [go_sem, encTab, encG, q_], hK _ _ ?_⟩)) | refine ⟨.one (.one (.bool false)), by simp [go_sem, encTab, encG, q_], hK _ _ ?_⟩ | refine ⟨ob, ?_⟩ | refine ⟨hK _ ?_, fun h => ?_⟩ | refine ⟨?_, ?_⟩); all_goals ((try apply hK); clear hK K))
      all_goals try clear q_
      simp [go_sem]
    ·have hF' := hF fun e => c4 (by rw [e])
     have c4' : ((a.pairs.length : Int) != (b.pairs.length : Int)) = true := by rw [bne_iff_ne]; omega
     rw [hF']
     have q_ := aN c3 <| aN c4 <| c4'
     repeat' first | refine St.go ?_ | ((with_reducible refine cn ?_ ?_) <;> intro h <;> (try simp [q_] at h) <;> try omega) | (refine Ru.go ?_; intro K hK; simp [go_sem, encTab, encG, q_]; (try simp (disch := omega) only [wx, z_i]); (first | apply hK | ((try refine .inl ?_); refine ⟨_, by (try intro hc); (repeat' first | exact k1 | exact k2 | exact hc | refine And.intro ?_ ?_ | simp [go_sem, encTab, encG, q_]); first | done | omega, ?_⟩; first | apply hK | (refine ⟨by simp [go_sem, encTab, encG, q_], ?_⟩; first | apply hK | refine ⟨by simp [go_sem, encTab, encG, q_], hK _ _ ?_⟩)) | refine ⟨.one (.one (.bool false)), by simp [go_sem, encTab, encG, q_], hK _ _ ?_⟩ | refine ⟨ob, ?_⟩ | refine ⟨hK _ ?_, fun h => ?_⟩ | refine ⟨?_, ?_⟩); all_goals ((try apply hK); clear hK K))
     all_goals try clear q_
     simp [go_sem]
   ·have hF' := hF fun e => c3 (by rw [e])
    have c3' : ((a.labels.length : Int) != (b.labels.length : Int)) = true := by rw [bne_iff_ne]; omega
    rw [hF']
    repeat' first | refine St.go ?_ | ((with_reducible refine cn ?_ ?_) <;> intro h <;> (try simp [c3, c3'] at h) <;> try omega) | (refine Ru.go ?_; intro K hK; simp [go_sem, encTab, encG, c3, c3']; (try simp (disch := omega) only [wx, z_i]); (first | apply hK | ((try refine .inl ?_); refine ⟨_, by (try intro hc); (repeat' first | exact k1 | exact k2 | exact hc | refine And.intro ?_ ?_ | simp [go_sem, encTab, encG, c3, c3']); first | done | omega, ?_⟩; first | apply hK | (refine ⟨by simp [go_sem, encTab, encG, c3, c3'], ?_⟩; first | apply hK | refine ⟨by simp [go_sem, encTab, encG, c3, c3'], hK _ _ ?_⟩)) | refine ⟨.one (.one (.bool false)), by simp [go_sem, encTab, encG, c3, c3'], hK _ _ ?_⟩ | refine ⟨ob, ?_⟩ | refine ⟨hK _ ?_, fun h => ?_⟩ | refine ⟨?_, ?_⟩); all_goals ((try apply hK); clear hK K))
    simp [go_sem]
  ·have hF' := hF fun e => c2 (by rw [e])
   rw [decide_eq_false c2] at k2
   rw [hF']
   repeat' first | refine St.go ?_ | ((with_reducible refine cn ?_ ?_) <;> intro h <;> (try simp at h) <;> try omega) | (refine Ru.go ?_; intro K hK; simp [go_sem, encTab, encG]; (try simp (disch := omega) only [wx, z_i]); (first | apply hK | ((try refine .inl ?_); refine ⟨_, by (try intro hc); (repeat' first | exact k1 | exact k2 | exact hc | refine And.intro ?_ ?_ | simp [go_sem, encTab, encG]); first | done | omega, ?_⟩; first | apply hK | (refine ⟨by simp [go_sem, encTab, encG], ?_⟩; first | apply hK | refine ⟨by simp [go_sem, encTab, encG], hK _ _ ?_⟩)) | refine ⟨.one (.one (.bool false)), by simp [go_sem, encTab, encG], hK _ _ ?_⟩ | refine ⟨ob, ?_⟩ | refine ⟨hK _ ?_, fun h => ?_⟩ | refine ⟨?_, ?_⟩); all_goals ((try apply hK); clear hK K))
   simp [go_sem]
 ·have hF' := hF fun e => c1 (by rw [e])
  rw [decide_eq_false c1] at k1
  rw [hF']
  repeat' first | refine St.go ?_ | ((with_reducible refine cn ?_ ?_) <;> intro h <;> (try simp at h) <;> try omega) | (refine Ru.go ?_; intro K hK; simp [go_sem, encTab, encG]; (try simp (disch := omega) only [wx, z_i]); (first | apply hK | ((try refine .inl ?_); refine ⟨_, by (try intro hc); (repeat' first | exact k1 | exact k2 | exact hc | refine And.intro ?_ ?_ | simp [go_sem, encTab, encG]); first | done | omega, ?_⟩; first | apply hK | (refine ⟨by simp [go_sem, encTab, encG], ?_⟩; first | apply hK | refine ⟨by simp [go_sem, encTab, encG], hK _ _ ?_⟩)) | refine ⟨.one (.one (.bool false)), by simp [go_sem, encTab, encG], hK _ _ ?_⟩ | refine ⟨ob, ?_⟩ | refine ⟨hK _ ?_, fun h => ?_⟩ | refine ⟨?_, ?_⟩); all_goals ((try apply hK); clear hK K))
  simp [go_sem]
theorem frz_encD (x : Dcl) : frzL (encD x) = encD x := by simp [encD, frzL, DV.frz]
def isOw : DV -> Bool
 | .ow _ _ => true
 | .bx _ => true
 | _ => false
theorem hasOw_cons (x : DV) (l : List DV) : hasOw (x :: l) = (isOw x || hasOw l) := by
 cases x <;> simp [hasOw, isOw]
theorem f43 (g : Glob) (h : MedG g) : Impl Tryz.prog 43 [.ag (encG g)] (.one (.ag (encG g))) := by
 obtain ⟨hd, hd2, hr, he, ht⟩ := h
 have k1 := f80 g.roles hr
 have k2 := f81 g.edges he
 have k3 := f82 g.timeouts ht
 refine impl_w Tryz.func43 z43 Tryz.ntmps43 (by simp) ?_
 simp only [slotsOf]
 conv => arg 2; reduce
 repeat' first | refine St.go ?_ | ((with_reducible refine cn ?_ ?_) <;> intro h <;> (try simp at h) <;> try omega) | (refine Ru.go ?_; intro K hK; simp [go_sem, encG]; (try simp (disch := omega) only [wx, z_i]); (first | apply hK | ((try refine .inl ?_); refine ⟨_, by (repeat' first | exact k1 | exact k2 | exact k3 | refine And.intro ?_ ?_ | simp [go_sem, encG]); first | done | omega, ?_⟩; first | apply hK | (refine ⟨by simp [go_sem, encG], ?_⟩; first | apply hK | refine ⟨by simp [go_sem, encG], hK _ _ ?_⟩)) | refine ⟨by first | omega | (simp [z_f, z_g, encG]; first | done | omega), ?_⟩ | refine ⟨hK _ ?_, fun h => ?_⟩ | refine ⟨?_, ?_⟩); all_goals ((try apply hK); clear hK K))
 refine z_k (fun n e => ∃ (k : Nat) (D : DV), k + n = g.decls.length /\ ((k = 0 /\ D = .nil) \/ (0 < k /\ D = .ow 5 ((g.decls.take k).map encD))) /\ e = [(23, .sv (.one (.int .i64 k))), (22, .sv (.one (.int .i64 g.decls.length))), (21, .sv (.one (.sl (g.decls.map encD)))), (3, .sv (.one (.bx [.str g.name, .sl (g.roles.map encS), D, .int .i64 g.states, .int .i64 g.start, .int .i64 g.end_, .sl (g.edges.map encEd), .sl (g.timeouts.map encT)]))), (2, .sv (.one (.bx [.str ⟨#[]⟩, .nil, .nil, .int .i64 0, .int .i64 0, .int .i64 0, .nil, .nil])))]) g.decls.length _ ⟨0, .nil, by simp, .inl ⟨rfl, rfl⟩, rfl⟩ (by simp [go_sem]) ?_
 rintro n e ⟨k, D, hk, hD, rfl⟩
 by_cases hlt : k < g.decls.length
 ·obtain ⟨d, hdk⟩ : ∃ d, g.decls[k] = d := ⟨_, rfl⟩
  obtain ⟨q1, q2, q3⟩ := hd2 d (hdk ▸ List.getElem_mem hlt)
  have j1 := f83 d.fields q1
  have j2 := f84 d.diffs q2
  have j3 := f85 d.equals q3
  have hap : ∀ l : List Dcl, l.length <= 1000000 -> z_f 5 96 (l.map encD) [encD d] := by
   intro l hl
   refine ⟨?_, ?_, by omega, ?_, ?_⟩
   ·intro e he; rw [List.mem_singleton.1 he]; rfl
   ·intro e he; rw [List.mem_singleton.1 he]; rfl
   ·simp only [List.length_map, List.length_singleton, maxLen]; omega
   ·simp only [List.length_map, List.length_singleton]; omega
  have hap0 := hap [] (by simp)
  have hap1 := hap (g.decls.take k) (by simp; omega)
  have hz : encD d = [.str d.name, .sl (d.fields.map encF), .int .i64 d.first, .sl (d.diffs.map encDf), .sl (d.equals.map encEq)] := rfl
  rw [hz] at hap0 hap1
  rw [List.map_take] at hap1
  simp only [List.map_nil] at hap0
  have hsucc : (g.decls.take (k + 1)).map encD = (g.decls.take k).map encD ++ [encD d] := by
   rw [List.take_succ_eq_append_getElem hlt, hdk, List.map_append]; rfl
  rcases hD with ⟨hk0, rfl⟩ | ⟨hk0, rfl⟩
  ·skip
   have q_ := aN hlt <| aN hdk <| hap0
   repeat' first | refine St.go ?_ | ((with_reducible refine cn ?_ ?_) <;> intro h <;> (try simp [q_] at h) <;> try omega) | (refine Ru.go ?_; intro K hK; simp [go_sem, encD, q_]; (try simp (disch := omega) only [wx, z_i]); (first | apply hK | ((try refine .inl ?_); refine ⟨_, by (repeat' first | exact j1 | exact j2 | exact j3 | refine And.intro ?_ ?_ | simp [go_sem, encD, q_]); first | done | omega, ?_⟩; first | apply hK | (refine ⟨by simp [go_sem, encD, q_], ?_⟩; first | apply hK | refine ⟨by simp [go_sem, encD, q_], hK _ _ ?_⟩)) | refine ⟨by first | omega | (simp [z_f, z_g, encD, q_]; first | done | omega), ?_⟩ | refine ⟨hK _ ?_, fun h => ?_⟩ | refine ⟨?_, ?_⟩); all_goals ((try apply hK); clear hK K))
   all_goals try clear q_
   subst hk0
   refine z_j (n - 1) _ (by omega) ⟨1, _, by omega, .inr ⟨by omega, rfl⟩, rfl⟩ ?_
   simp [go_sem, hsucc, encD]
  ·skip
   have q_ := aN hlt <| aN hdk <| hap1
   repeat' first | refine St.go ?_ | ((with_reducible refine cn ?_ ?_) <;> intro h <;> (try simp [q_] at h) <;> try omega) | (refine Ru.go ?_; intro K hK; simp [go_sem, encD, q_]; (try simp (disch := omega) only [wx, z_i]); (first | apply hK | ((try refine .inl ?_); refine ⟨_, by (repeat' first | exact j1 | exact j2 | exact j3 | refine And.intro ?_ ?_ | simp [go_sem, encD, q_]); first | done | omega, ?_⟩; first | apply hK | (refine ⟨by simp [go_sem, encD, q_], ?_⟩; first | apply hK | refine ⟨by simp [go_sem, encD, q_], hK _ _ ?_⟩)) | refine ⟨by first | omega | (simp [z_f, z_g, encD, q_]; first | done | omega), ?_⟩ | refine ⟨hK _ ?_, fun h => ?_⟩ | refine ⟨?_, ?_⟩); all_goals ((try apply hK); clear hK K))
   all_goals try clear q_
   refine z_j (n - 1) _ (by omega) ⟨k + 1, _, by omega, .inr ⟨by omega, rfl⟩, rfl⟩ ?_
   simp [go_sem, hsucc, encD]
 ·have hkl : g.decls.take k = g.decls := List.take_of_length_le (by omega)
  rw [hkl] at hD
  rcases hD with ⟨hk0, rfl⟩ | ⟨hk0, rfl⟩
  ·have hnil : g.decls = [] := List.eq_nil_of_length_eq_zero (by omega)
   repeat' first | refine St.go ?_ | ((with_reducible refine cn ?_ ?_) <;> intro h <;> (try simp [hlt] at h) <;> try omega) | (refine Ru.go ?_; intro K hK; simp [go_sem, hlt, hasOw_cons, isOw, Bool.or_true, Bool.true_or, Bool.or_false]; (try simp (disch := omega) only [wx, z_i]); (first | apply hK | refine ⟨by first | omega | (simp [z_f, z_g, hlt, hasOw_cons, isOw, Bool.or_true, Bool.true_or, Bool.or_false, DV.flat]; first | done | omega), ?_⟩ | refine ⟨hK _ ?_, fun h => ?_⟩ | refine ⟨?_, ?_⟩); all_goals ((try apply hK); clear hK K))
   simp [go_sem, encG, hnil]
  ·skip
   repeat' first | refine St.go ?_ | ((with_reducible refine cn ?_ ?_) <;> intro h <;> (try simp [hlt] at h) <;> try omega) | (refine Ru.go ?_; intro K hK; simp [go_sem, hlt, hasOw_cons, isOw, Bool.or_true, Bool.true_or]; (try simp (disch := omega) only [wx, z_i]); (first | apply hK | refine ⟨by first | omega | (simp [z_f, z_g, hlt, hasOw_cons, isOw, Bool.or_true, Bool.true_or, DV.flat]; first | done | omega), ?_⟩ | refine ⟨hK _ ?_, fun h => ?_⟩ | refine ⟨?_, ?_⟩); all_goals ((try apply hK); clear hK K))
   simp [go_sem, encG, frz_encD]
theorem und61 : Tryz.prog.underlying 61 = some (.array 2 3) := by kernel_rfl
theorem und3 : Tryz.prog.underlying 3 = some (.int .i64) := by kernel_rfl
theorem size3 : sizeT Tryz.prog 3 = some 1 := by kernel_rfl
theorem kind3 : kindT Tryz.prog 3 = some false := by kernel_rfl
theorem key61 (a b : Int) : KeyT Tryz.prog 61 [.ki .i64 a, .ki .i64 b] := by
 intro em w
 have h1 : ∀ (n : Nat) (x : Int), (Instr.checkKey em (n + 1) 3 (.int .i64 x)).run Tryz.prog w = .ok () w := by
  intro n x
  simp [Instr.checkKey, run_underlying und3]
 show (Instr.checkKey em (9998 + 1 + 1) 61 _).run Tryz.prog w = _
 rw [Instr.checkKey]
 simp only [KV.key, List.map_cons, List.map_nil, KV.val, Sem.run_bind, run_underlying und61, Result.andThen_ok, Std.Legacy.Range.forIn_eq_forIn_range', Std.Legacy.Range.size, Nat.sub_zero, Nat.add_sub_cancel, Nat.div_one, List.range'_succ, List.range'_zero, List.forIn_cons, List.forIn_nil, run_sizeOf size3, part, run_isAgg kind3, Bool.false_eq_true, if_false]
 simp [h1]
end Go.Av
