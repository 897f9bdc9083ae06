/- A contract that takes over its first argument, out of a walk: the result shares nothing. -/
import Derived.Test.YtbfebdbdoclagaaGreatDoorAvR
set_option linter.unusedVariables false
set_option linter.unusedSimpArgs false
set_option maxHeartbeats 64000000
namespace Go.Av
open Go Go.RowKit
theorem implC_intro {P : Program} {f : FuncId} {fn : Func} {c : Code} {ac : AC} {rl : List ResultVar} (hf : P.funcs[f]? = some fn) (hb : fn.body = some c) (hac : slim c = ac) (hrl : fn.results.toList = rl) (hname : fn.name ≠ "runtime.NumGoroutine") {N : Nat} (hN0 : fn.ntmps = N) (htx : textOk P N c = true)
  {x : DV} {args : List SV} {y : DV} (hcl : Closed y) (hN : args.length + 1 <= N) (h : awp P ac (endsIn P rl (.one (.one y))) (slotsOf 0 (.one x :: args))) : ImplC P f x args y := by
 subst hac
 subst hrl
 subst hN0
 refine ⟨⟨fn, hf, by simp [hb], hname⟩, fun w S v0 vs r0 B hS hr0 hnd hB hcz hargs => ?_⟩
 have hlen := hargs.length
 let a : Act := { tmps := (v0 :: vs).toArray ++ Array.replicate (fn.ntmps - (v0 :: vs).toArray.size) Go.undef, defers := [] }
 have ha0 : Act.f a 0 = v0 := by
  simp only [Act.f, a, Array.getD_eq_getD_getElem?]
  rw [Array.getElem?_append_left (by simp)]
  simp
 have hSn : ∀ b, S b -> b < w.heap.size /\ b ∉ r0 := fun b hb => ⟨hS b hb, fun hr => (hr0 b hr).2.2 hb⟩
 have hsim : SimR fn.ntmps B w (fun b => b < w.heap.size /\ b ∉ r0) (slotsOf 0 (.one x :: args)) a w (fun t => if t = 0 then r0 else []) := by
  refine ⟨rfl, ?_, Below.refl _ _, hB, fun b hb => ⟨hb.1, rfl, fun t ht => ?_⟩, fun t b hb => ?_, fun t => ?_, fun t t' hne b hb hb' => ?_, fun t => ?_⟩
  ·simp only [a, Array.size_append, List.size_toArray, Array.size_replicate, List.length_cons]
   omega
  ·split at ht
   ·exact hb.2 ht
   ·cases ht
  ·split at hb
   ·exact ⟨(hr0 b hb).1, (hr0 b hb).2.1⟩
   ·cases hb
  ·split
   ·exact hnd
   ·exact List.nodup_nil
  ·split at hb
   ·split at hb'
    ·omega
    ·cases hb'
   ·cases hb
  ·by_cases h0 : t = 0
   ·subst h0
    simp only [slotsOf, Env.get, if_true]
    rw [ha0]
    exact .one _ _ _ (hcz.keep (fun b hb => ⟨.inl (hSn b hb), rfl⟩) (fun _ _ => rfl))
   ·have hg : (slotsOf 0 (.one x :: args)).get t = (slotsOf 1 args).get t := by
     simp only [slotsOf, Env.get]
     rw [if_neg (fun e => h0 e.symm)]
    rw [hg, slotsOf_get]
    simp only [h0, if_false]
    split
    ·split
     ·rename_i x' hx
      obtain ⟨v, hv, hc⟩ := hargs.get0 rfl (t - 1) x' hx
      have hft : Act.f a t = v := by
       have hlt : t - 1 < vs.length := (List.getElem?_eq_some_iff.1 hv).1
       simp only [Act.f, a, Array.getD_eq_getD_getElem?]
       rw [Array.getElem?_append_left (by simp; omega)]
       have : t = (t - 1) + 1 := by omega
       rw [List.getElem?_toArray, this, List.getElem?_cons_succ, hv]
       rfl
      rw [hft]
      exact hc.keep (fun b hb => ⟨.inl (hSn b hb), rfl⟩) (by simp)
     ·trivial
    ·trivial
 refine calls_of_wp hf hb (awp_ok (crossOf c) c _ _ _ a w htx h ⟨_, hsim⟩ ?_)
 rintro x' env' a' w' ⟨hx, hend⟩ ⟨rows, hs⟩
 split at hend
 ·rename_i l roots hres
  obtain ⟨hnd2, ht, hwf⟩ := hend
  obtain ⟨rvs, rs, hrun, hvl, hnr, hroots, hczr⟩ := hs.resL_ok _ _ _ hres hnd2 (RV.list (.one (.one y))) ht
  have h1 : rvs.length = 1 := by rw [hvl]; rfl
  have hres2 : (results fn a'.tmps).run P w' = .ok rvs[0] w' := by
   have hm : (fn.results.mapM (resRun a'.tmps)).run P w' = .ok rvs.toArray w' := by
    rw [Array.mapM_eq_mapM_toList]
    simp [hrun]
   have he : results fn a'.tmps = (fn.results.mapM (resRun a'.tmps) >>= fun vs => pure (if h : vs.size = 1 then vs[0] else .tuple vs)) := by
    unfold results
    refine congrArg (fun g : ResultVar -> Sem Value => (fn.results.mapM g >>= fun vs => pure (if h : vs.size = 1 then vs[0] else .tuple vs))) (funext fun x => ?_)
    cases x <;> rfl
   rw [he]
   simp only [Sem.run_bind, hm, Result.andThen_ok, Sem.run_pure]
   simp [h1]
  have hczl := hczr (fun _ => True) (fun _ _ => trivial) (fun _ _ _ _ _ => trivial)
  have hy : Cz w' S rvs[0] y rs := by
   simp only [RV.list] at hczl
   generalize hg : rvs[0] = u
   cases hczl with
   | cons v x r vs xs rs' g1 g2 =>
     cases g2 with
     | nil =>
       simp only [List.getElem_cons_zero] at hg
       subst hg
       have := (CzS.one_inv g1).closed (S' := S) hcl
       simpa using this
  have hin : ∀ b ∈ rs, (b ∈ r0 \/ w.heap.size <= b) /\ b < w'.heap.size := by
   intro b hb
   obtain ⟨s, _, hbs⟩ := hroots b hb
   refine ⟨?_, (hs.own s b hbs).2⟩
   by_cases hlt : b < w.heap.size
   ·left
    by_cases hin : b ∈ r0
    ·exact hin
    ·exact ((hs.old b ⟨hlt, hin⟩).2.2 s hbs).elim
   ·right; omega
  have fin : ∃ v rs, Ending.returned rvs[0] = .returned v /\ Below B w w' /\ (∀ b, b < w.heap.size -> b ∉ r0 -> w'.heap[b]? = w.heap[b]?) /\ (∀ b ∈ rs, (b ∈ r0 \/ w.heap.size <= b) /\ b < w'.heap.size) /\ rs.Nodup /\ Cz w' S v y rs :=
   ⟨_, rs, rfl, hs.below, fun b hb hn => (hs.old b ⟨hb, hn⟩).2.1, hin, hnr, hy⟩
  cases x' with
  | ret => exact ⟨hs.defers, _, hres2, fin⟩
  | normal => exact ⟨hs.defers, _, hres2, fin⟩
  | _ => exact hx.elim
 ·exact hend.elim
end Go.Av
