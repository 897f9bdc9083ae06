/- Part of a proof. -/
import Derived.Test.YticeobjphcmggaaGreatDoorAvR
import Derived.Test.YticeobjphcmggaaGreatDoorB03
set_option linter.unusedVariables false
set_option linter.unusedSimpArgs false
set_option maxHeartbeats 64000000
set_option maxRecDepth 8000
namespace Go.Av
open Go Go.RowKit Go.Proofs
set_option maxHeartbeats 64000000
theorem f84 (g : Glob) (hs : Small g) : Impl Tryz.prog 84 [.ag (encG g)] (.one (.one (.bool (orderedB g false)))) := by
 obtain ⟨s1, s2, s3, s4, s5, s6⟩ := hs
 refine impl_intro z84.f z84.b rfl z84.r z84.n z84.t z84.d (by simp) fun hs => ?_
 clear hs s3 s4
 simp only [slotsOf]
 conv => arg 2; reduce
 refine wX encG.eq_1 ?_
 refine z_k (fun n e => ∃ i : Nat, i + n = g.edges.length /\ (List.range i).all (ordAt g false) = true /\ e = [(3, .sv (.one (.int .i64 i))), (1, .sv (.one (.bx (encG g))))]) g.edges.length _ ⟨0, by simp, by simp, rfl⟩ (by simp [go_sem, encG]) ?_
 rintro n e ⟨i, hi, hall, rfl⟩
 by_cases hlt : i < g.edges.length
 ·have hok := ordAt_get (e := false) hlt
  have hbad : ordAt g false i = false -> orderedB g false = false := fun h => range_all_no hlt h
  obtain ⟨x, hx⟩ : ∃ x, g.edges[i] = x := ⟨_, rfl⟩
  rw [hx] at hok
  cases hc : (x.again && x.from_ == g.start) with
  | true =>
    have hv := hbad (by rw [hok, hc]; simp)
    refine wX (aN hlt <| aN hx <| aN encG.eq_1 <| aN encEd.eq_1 hc) ?_
    simp [go_sem, hv]
  | false =>
    refine wX (aN hlt <| aN hx <| aN encG.eq_1 <| aN encEd.eq_1 hc) ?_
    refine z_k (fun q e => ∃ k : Nat, k + q = g.edges.length /\ (List.range k).all (okPr g.edges i x) = true /\ e = [(5, .sv (.one (.int .i64 k))), (4, .sv (.one (.bx (encEd x)))), (3, .sv (.one (.int .i64 i))), (1, .sv (.one (.bx (encG g))))]) g.edges.length _ ⟨0, by simp, by simp, rfl⟩ (by simp [go_sem, encG, encEd]) ?_
    rintro q e ⟨k, hk, hrow, rfl⟩
    by_cases hkl : k < g.edges.length
    ·obtain ⟨y, hy⟩ : ∃ y, g.edges[k] = y := ⟨_, rfl⟩
     have hpr : okPr g.edges i x k = (!bad1 (i == k) x y && !bad2 x y) := by
      unfold okPr
      rw [List.getElem?_eq_getElem hkl, hy]
     have hpbad : okPr g.edges i x k = false -> orderedB g false = false := fun h => hbad (by rw [hok]; simp [okRow, range_all_no hkl h])
     have hik : ((k : Int) = (i : Int)) ↔ i = k := by omega
     repeat' first | refine St.go ?_ | ((with_reducible refine cn ?_ ?_) <;> intro h <;> (try simp at h) <;> try omega) | (refine Ru.go ?_; intro K hK; simp [go_sem, hkl, hy, encG, encEd]; (try simp (disch := omega) only [wx, z_i]); (first | apply hK | refine ⟨by first | omega | (simp [z_f, z_g, hkl, hy, encG, encEd]; first | done | omega), ?_⟩ | refine ⟨hK _ ?_, fun h => ?_⟩ | refine ⟨?_, ?_⟩); all_goals ((try apply hK); clear hK K))
     ·have hb : bad1 (i == k) x y = true := by
       simp only [hik] at h
       simp [bad1, actEq]
       grind
      have hv := hpbad (by rw [hpr, hb]; rfl)
      simp [go_sem, hv]
     ·grind
     ·have hb : bad2 x y = true := by
       simp [bad2]
       grind
      have hv := hpbad (by rw [hpr, hb]; simp)
      simp [go_sem, hv]
     ·rename_i h'
      have hb1 : bad1 (i == k) x y = false := by
       simp only [hik] at h'
       simp [bad1, actEq]
       grind
      have hb2 : bad2 x y = false := by
       simp [bad2]
       grind
      refine z_j (q - 1) _ (by omega) ⟨k + 1, by omega, ?_, rfl⟩ ?_
      ·rw [range_succ_all, hrow, hpr, hb1, hb2]; rfl
      ·simp [go_sem, encG, encEd]
    ·have hke : k = g.edges.length := by omega
     rw [hke] at hrow
     have ho : ordAt g false i = true := by
      rw [hok]
      have : okRow g.edges i x = true := hrow
      rw [this, hc]
      rfl
     refine wX (aN hkl encG.eq_1) ?_
     refine z_j (n - 1) _ (by omega) ⟨i + 1, by omega, ?_, rfl⟩ ?_
     ·rw [range_succ_all, hall, ho]; rfl
     ·simp [go_sem, encG]
 ·have hie : i = g.edges.length := by omega
  rw [hie] at hall
  have hv : orderedB g false = true := hall
  refine wX (aN hlt encG.eq_1) ?_
  simp [go_sem, hv]
end Go.Av
