/- Part of a proof. -/
import Derived.Test.YtbfebdbdoclagaaGreatDoorAvR
import Derived.Test.YtbfebdbdoclagaaGreatDoorB06
set_option linter.unusedVariables false
set_option linter.unusedSimpArgs false
set_option maxHeartbeats 64000000
set_option maxRecDepth 8000
namespace Go.Av
open Go Go.RowKit Go.Proofs
set_option maxHeartbeats 64000000
theorem f56 (g : Glob) (hs : Small g) : Impl Tryz.prog 56 [.ag (encG g)] (.one (.one (.bool (timedR g)))) := by
 obtain ⟨s1, s2, s3, s4, s5, s6⟩ := hs
 refine impl_intro z56.f z56.b rfl z56.r z56.n z56.t z56.d (by simp) fun hs => ?_
 clear hs s3 s4
 simp only [slotsOf]
 conv => arg 2; reduce
 have f82s := f82 g
 simp only [encG] at f82s
 refine wX encG.eq_1 ?_
 refine z_k (fun n e => ∃ i : Nat, i + n = g.timeouts.length /\ (List.range i).all (timedRAt g) = true /\ e = [(3, .sv (.one (.int .i64 i))), (1, .sv (.one (.bx (encG g))))]) g.timeouts.length _ ⟨0, by simp, by simp, rfl⟩ (by simp [go_sem, encG]) ?_
 rintro n e ⟨i, hi, hall, rfl⟩
 by_cases hlt : i < g.timeouts.length
 ·have hok := timedRAt_get hlt
  have hbad : timedRAt g i = false -> timedR g = false := fun h => range_all_no hlt h
  obtain ⟨t, ht⟩ : ∃ t, g.timeouts[i] = t := ⟨_, rfl⟩
  rw [ht] at hok
  have c1 := f82s t.state
  rcases i with _ | k
  ·by_cases hneg : t.els < 0
   ·have hv := hbad (by rw [hok]; simp [tmAt, show ¬ 0 <= t.els by omega])
    cases hq : g.edges[t.els.toNat]? with
    | none =>
      refine wV (aN hlt <| aN ht <| aN hneg <| aN hq <| aN encG.eq_1 encT.eq_1) c1 ?_
      all_goals first | grind | simp [go_sem, hv]
    | some x =>
      refine wV (aN hlt <| aN ht <| aN hneg <| aN hq <| aN encG.eq_1 <| aN encT.eq_1 encEd.eq_1) c1 ?_
      all_goals first | grind | simp [go_sem, hv]
   ·by_cases hge : (g.edges.length : Int) <= t.els
    ·have hv := hbad (by rw [hok]; simp [tmAt, show ¬ t.els < g.edges.length by omega])
     have hq : g.edges[t.els.toNat]? = none := List.getElem?_eq_none (by omega)
     refine wV (aN hlt <| aN ht <| aN hge <| aN hq <| aN encG.eq_1 encT.eq_1) c1 ?_
     all_goals first | grind | simp [go_sem, hv]
    ·have hel : t.els.toNat < g.edges.length := by omega
     obtain ⟨x, hx⟩ : ∃ x, g.edges[t.els.toNat] = x := ⟨_, rfl⟩
     have htm : tmAt g t = (decide (1 <= t.ticks) && decide (t.ticks <= 1000) && (x.from_ == t.state && !x.again)) := by
      unfold tmAt
      rw [List.getElem?_eq_getElem hel, hx]
      simp [show 0 <= t.els by omega, show t.els < g.edges.length by omega]
     have hpos : 0 <= t.els := by omega
     repeat' first | refine St.go ?_ | ((with_reducible refine cn ?_ ?_) <;> intro h <;> (try simp at h) <;> try omega) | (refine Ru.go ?_; intro K hK; simp [go_sem, hlt, ht, hneg, hge, hpos, hel, hx, encG, encT, encEd]; (try simp (disch := omega) only [wx, z_i]); (first | apply hK | ((first | ((try refine .inl ?_); refine ⟨_, by (try intro hc); (repeat' first | exact c1 | exact hc | refine And.intro ?_ ?_ | simp [go_sem, hlt, ht, hneg, hge, hpos, hel, hx, encG, encT, encEd]); first | done | omega, ?_⟩) | refine .inr (.inl ⟨_, by (try intro hc); (repeat' first | exact c1 | exact hc | refine And.intro ?_ ?_ | simp [go_sem, hlt, ht, hneg, hge, hpos, hel, hx, encG, encT, encEd]); first | done | omega, ?_⟩) | refine .inr (.inr ⟨_, by (try intro hc); (repeat' first | exact c1 | exact hc | refine And.intro ?_ ?_ | simp [go_sem, hlt, ht, hneg, hge, hpos, hel, hx, encG, encT, encEd]); first | done | omega, ?_⟩)); first | apply hK | (refine ⟨by simp [go_sem, hlt, ht, hneg, hge, hpos, hel, hx, encG, encT, encEd], ?_⟩; first | apply hK | refine ⟨by simp [go_sem, hlt, ht, hneg, hge, hpos, hel, hx, encG, encT, encEd], hK _ _ ?_⟩)) | refine ⟨.one (.one (.bool false)), by simp [go_sem, hlt, ht, hneg, hge, hpos, hel, hx, encG, encT, encEd], hK _ _ ?_⟩ | refine ⟨by first | omega | (simp [z_f, z_g, hlt, ht, hneg, hge, hpos, hel, hx, encG, encT, encEd]; first | done | omega), ?_⟩ | refine ⟨hK _ ?_, fun h => ?_⟩ | refine ⟨?_, ?_⟩); all_goals ((try apply hK); clear hK K))
     ·have hv := hbad (by
       rw [hok, htm]
       simp
       grind)
      simp [go_sem, hv]
     ·refine z_j (n - 1) _ (by omega) ⟨0 + 1, by omega, ?_, rfl⟩ ?_
      ·rw [range_succ_all, hall, hok, htm]
       simp
       grind
      ·simp [go_sem, encG]
  ·have hkl : k < g.timeouts.length := by omega
   have hls := lastOf_succ hkl
   obtain ⟨u, hu⟩ : ∃ u, g.timeouts[k] = u := ⟨_, rfl⟩
   rw [hu] at hls
   have hw : IntKind.i64.wrap (((k + 1 : Nat) : Int) - 1) = (k : Int) := by rw [z_h (by omega) (by omega)]; omega
   by_cases hneg : t.els < 0
   ·have hv := hbad (by rw [hok]; simp [tmAt, show ¬ 0 <= t.els by omega])
    cases hq : g.edges[t.els.toNat]? with
    | none =>
      refine wV (aN hlt <| aN ht <| aN hkl <| aN hu <| aN hw <| aN hneg <| aN hq <| aN encG.eq_1 encT.eq_1) c1 ?_
      all_goals first | grind | simp [go_sem, hv]
    | some x =>
      refine wV (aN hlt <| aN ht <| aN hkl <| aN hu <| aN hw <| aN hneg <| aN hq <| aN encG.eq_1 <| aN encT.eq_1 encEd.eq_1) c1 ?_
      all_goals first | grind | simp [go_sem, hv]
   ·by_cases hge : (g.edges.length : Int) <= t.els
    ·have hv := hbad (by rw [hok]; simp [tmAt, show ¬ t.els < g.edges.length by omega])
     have hq : g.edges[t.els.toNat]? = none := List.getElem?_eq_none (by omega)
     refine wV (aN hlt <| aN ht <| aN hkl <| aN hu <| aN hw <| aN hge <| aN hq <| aN encG.eq_1 encT.eq_1) c1 ?_
     all_goals first | grind | simp [go_sem, hv]
    ·have hel : t.els.toNat < g.edges.length := by omega
     obtain ⟨x, hx⟩ : ∃ x, g.edges[t.els.toNat] = x := ⟨_, rfl⟩
     have htm : tmAt g t = (decide (1 <= t.ticks) && decide (t.ticks <= 1000) && (x.from_ == t.state && !x.again)) := by
      unfold tmAt
      rw [List.getElem?_eq_getElem hel, hx]
      simp [show 0 <= t.els by omega, show t.els < g.edges.length by omega]
     have hpos : 0 <= t.els := by omega
     repeat' first | refine St.go ?_ | ((with_reducible refine cn ?_ ?_) <;> intro h <;> (try simp at h) <;> try omega) | (refine Ru.go ?_; intro K hK; simp [go_sem, hlt, ht, hkl, hu, hw, hneg, hge, hpos, hel, hx, encG, encT, encEd]; (try simp (disch := omega) only [wx, z_i]); (first | apply hK | ((first | ((try refine .inl ?_); refine ⟨_, by (try intro hc); (repeat' first | exact c1 | exact hc | refine And.intro ?_ ?_ | simp [go_sem, hlt, ht, hkl, hu, hw, hneg, hge, hpos, hel, hx, encG, encT, encEd]); first | done | omega, ?_⟩) | refine .inr (.inl ⟨_, by (try intro hc); (repeat' first | exact c1 | exact hc | refine And.intro ?_ ?_ | simp [go_sem, hlt, ht, hkl, hu, hw, hneg, hge, hpos, hel, hx, encG, encT, encEd]); first | done | omega, ?_⟩) | refine .inr (.inr ⟨_, by (try intro hc); (repeat' first | exact c1 | exact hc | refine And.intro ?_ ?_ | simp [go_sem, hlt, ht, hkl, hu, hw, hneg, hge, hpos, hel, hx, encG, encT, encEd]); first | done | omega, ?_⟩)); first | apply hK | (refine ⟨by simp [go_sem, hlt, ht, hkl, hu, hw, hneg, hge, hpos, hel, hx, encG, encT, encEd], ?_⟩; first | apply hK | refine ⟨by simp [go_sem, hlt, ht, hkl, hu, hw, hneg, hge, hpos, hel, hx, encG, encT, encEd], hK _ _ ?_⟩)) | refine ⟨.one (.one (.bool false)), by simp [go_sem, hlt, ht, hkl, hu, hw, hneg, hge, hpos, hel, hx, encG, encT, encEd], hK _ _ ?_⟩ | refine ⟨by first | omega | (simp [z_f, z_g, hlt, ht, hkl, hu, hw, hneg, hge, hpos, hel, hx, encG, encT, encEd]; first | done | omega), ?_⟩ | refine ⟨hK _ ?_, fun h => ?_⟩ | refine ⟨?_, ?_⟩); all_goals ((try apply hK); clear hK K))
     ·have hv := hbad (by
       rw [hok, htm, hls]
       simp
       grind)
      simp [go_sem, hv]
     ·refine z_j (n - 1) _ (by omega) ⟨k + 1 + 1, by omega, ?_, rfl⟩ ?_
      ·rw [range_succ_all, hall, hok, htm, hls]
       simp
       grind
      ·simp [go_sem, encG]
 ·have hie : i = g.timeouts.length := by omega
  rw [hie] at hall
  have hv : timedR g = true := hall
  refine wX (aN hlt encG.eq_1) ?_
  simp [go_sem, hv]
end Go.Av
