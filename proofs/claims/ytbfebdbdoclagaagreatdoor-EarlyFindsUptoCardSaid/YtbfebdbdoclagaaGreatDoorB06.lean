/- Part of a proof. -/
import Derived.Test.YtbfebdbdoclagaaGreatDoorAvR
import Derived.Test.YtbfebdbdoclagaaGreatDoorB05
set_option linter.unusedVariables false
set_option linter.unusedSimpArgs false
set_option maxHeartbeats 64000000
set_option maxRecDepth 8000
namespace Go.Av
open Go Go.RowKit Go.Proofs
set_option maxHeartbeats 64000000
def tmAt (g : Glob) (t : Tmo) : Bool := decide (1 <= t.ticks) && decide (t.ticks <= 1000) && decide (0 <= t.els) && decide (t.els < g.edges.length) && match g.edges[t.els.toNat]? with
 | some x => x.from_ == t.state && !x.again
 | none => false
def lastOf (g : Glob) (i : Nat) : Int := match i with
 | 0 => -1
 | k + 1 => match g.timeouts[k]? with
   | some t => t.state
   | none => -1
def timedAt (g : Glob) (i : Nat) : Bool := match g.timeouts[i]? with
 | some t => decide (lastOf g i < t.state) && tmAt g t
 | none => true
def timedP (g : Glob) : Bool := (List.range g.timeouts.length).all (timedAt g)
def timedRAt (g : Glob) (i : Nat) : Bool := match g.timeouts[i]? with
 | some t => stateB g t.state && (decide (i = 0) || decide (lastOf g i < t.state)) && tmAt g t
 | none => true
def timedR (g : Glob) : Bool := (List.range g.timeouts.length).all (timedRAt g)
theorem timedAt_get {g : Glob} {i : Nat} (h : i < g.timeouts.length) : timedAt g i = (decide (lastOf g i < g.timeouts[i].state) && tmAt g g.timeouts[i]) := by
 unfold timedAt
 rw [List.getElem?_eq_getElem h]
theorem timedRAt_get {g : Glob} {i : Nat} (h : i < g.timeouts.length) : timedRAt g i = (stateB g g.timeouts[i].state && (decide (i = 0) || decide (lastOf g i < g.timeouts[i].state)) && tmAt g g.timeouts[i]) := by
 unfold timedRAt
 rw [List.getElem?_eq_getElem h]
theorem lastOf_succ {g : Glob} {i : Nat} (h : i < g.timeouts.length) : lastOf g (i + 1) = g.timeouts[i].state := by
 unfold lastOf
 simp [h]
theorem f66 (g : Glob) (hs : Small g) : Impl Tryz.prog 66 [.ag (encG g)] (.one (.one (.bool (timedP g)))) := by
 obtain ⟨s1, s2, s3, s4, s5, s6⟩ := hs
 refine impl_intro z66.f z66.b rfl z66.r z66.n z66.t z66.d (by simp) fun hs => ?_
 clear hs s3 s4
 simp only [slotsOf]
 conv => arg 2; reduce
 refine wX encG.eq_1 ?_
 refine z_k (fun n e => ∃ i : Nat, i + n = g.timeouts.length /\ (List.range i).all (timedAt g) = true /\ e = [(9, .sv (.one (.int .i64 i))), (8, .sv (.one (.int .i64 g.timeouts.length))), (7, .sv (.one (.sl (g.timeouts.map encT)))), (3, .sv (.one (.int .i64 (lastOf g i)))), (1, .sv (.one (.bx (encG g))))]) g.timeouts.length _ ⟨0, by simp, by simp, rfl⟩ (by simp [go_sem, encG, lastOf]) ?_
 rintro n e ⟨i, hi, hall, rfl⟩
 by_cases hlt : i < g.timeouts.length
 ·have hok := timedAt_get hlt
  have hbad : timedAt g i = false -> timedP g = false := fun h => range_all_no hlt h
  have hls := lastOf_succ hlt
  obtain ⟨t, ht⟩ : ∃ t, g.timeouts[i] = t := ⟨_, rfl⟩
  rw [ht] at hok hls
  obtain ⟨L, hL⟩ : ∃ L, lastOf g i = L := ⟨_, rfl⟩
  rw [hL] at hok
  by_cases hneg : t.els < 0
  ·have hv := hbad (by rw [hok]; simp [tmAt, show ¬ 0 <= t.els by omega])
   cases hq : g.edges[t.els.toNat]? with
   | none =>
     refine wX (aN hlt <| aN ht <| aN hL <| aN hneg <| aN hq <| aN encG.eq_1 encT.eq_1) ?_
     simp [go_sem, hv]
   | some x =>
     refine wX (aN hlt <| aN ht <| aN hL <| aN hneg <| aN hq <| aN encG.eq_1 <| aN encT.eq_1 encEd.eq_1) ?_
     simp [go_sem, hv]
  ·by_cases hge : (g.edges.length : Int) <= t.els
   ·have hv := hbad (by rw [hok]; simp [tmAt, show ¬ t.els < g.edges.length by omega])
    have hq : g.edges[t.els.toNat]? = none := List.getElem?_eq_none (by omega)
    refine wX (aN hlt <| aN ht <| aN hL <| aN hge <| aN hq <| aN encG.eq_1 encT.eq_1) ?_
    simp [go_sem, hv]
   ·have hel : t.els.toNat < g.edges.length := by omega
    obtain ⟨x, hx⟩ : ∃ x, g.edges[t.els.toNat] = x := ⟨_, rfl⟩
    have htm : tmAt g t = (decide (1 <= t.ticks) && decide (t.ticks <= 1000) && (x.from_ == t.state && !x.again)) := by
     unfold tmAt
     rw [List.getElem?_eq_getElem hel, hx]
     simp [show 0 <= t.els by omega, show t.els < g.edges.length by omega]
    have hpos : 0 <= t.els := by omega
    repeat' first | refine St.go ?_ | ((with_reducible refine cn ?_ ?_) <;> intro h <;> (try simp at h) <;> try omega) | (refine Ru.go ?_; intro K hK; simp [go_sem, hlt, ht, hL, hneg, hge, hpos, hel, hx, encG, encT, encEd]; (try simp (disch := omega) only [wx, z_i]); (first | apply hK | refine ⟨by first | omega | (simp [z_f, z_g, hlt, ht, hL, hneg, hge, hpos, hel, hx, encG, encT, encEd]; first | done | omega), ?_⟩ | refine ⟨hK _ ?_, fun h => ?_⟩ | refine ⟨?_, ?_⟩); all_goals ((try apply hK); clear hK K))
    ·have hv := hbad (by
      rw [hok, htm]
      simp
      grind)
     simp [go_sem, hv]
    ·refine z_j (n - 1) _ (by omega) ⟨i + 1, by omega, ?_, rfl⟩ ?_
     ·rw [range_succ_all, hall, hok, htm]
      simp
      grind
     ·simp [go_sem, hls, encG]
 ·have hie : i = g.timeouts.length := by omega
  rw [hie] at hall
  have hv : timedP g = true := hall
  refine wX hlt ?_
  simp [go_sem, hv]
end Go.Av
