/- Part of a proof by symbolic walks on plain data. -/
import Derived.Test.YtpdfolkoejbbgaaGreatDoorQB03
set_option linter.unusedVariables false
set_option linter.unusedSimpArgs false
set_option maxHeartbeats 64000000
namespace Go.Av
open Go Go.RowKit Go.Proofs
set_option maxRecDepth 8000
theorem any_no {α : Type} {p : α -> Bool} {l : List α} {k : Nat} (h : k < l.length) (hb : p l[k] = true) {m : Nat} (hm : k < m) : (l.take m).any p = true := by
 rw [List.any_eq_true]
 exact ⟨l[k], List.mem_iff_getElem.2 ⟨k, by rw [List.length_take]; omega, by simp⟩, hb⟩
theorem f100 (l : List Dcl) (hl : l.length <= 1000) (hf : ∀ d ∈ l, d.fields.length <= 100000) (hdl : ∀ d ∈ l, d.diffs.length <= 1000000 /\ d.equals.length <= 1000000 /\ d.name.size <= 1000000000000000) : Impl Tryz.prog 100 [.one (.sl (l.map encD))] (.one (.one (.bool (validD l)))) := by
 refine impl_w Tryz.func100 z100 Tryz.ntmps100 (by simp) ?_
 simp only [slotsOf]
 conv => arg 2; reduce
 by_cases h40 : l.length <= 40
 ·have h40' : ¬ (40 : Int) < (l.length : Int) := by omega
  have f41s := f41 l hl hf
  obtain ⟨all, hA⟩ : ∃ all, all = allF l := ⟨_, rfl⟩
  rw [<- hA] at f41s
  by_cases h24 : all.length <= 24
  ·have h24' : ¬ (24 : Int) < (all.length : Int) := by omega
   repeat' first | refine St.go ?_ | ((with_reducible refine z_Y (t := ?_) ?hc (fun h => ?_) (fun h => ?_)); (case hc => rfl); all_goals (try simp [go_sem, h40', h24'] at h); all_goals try omega) | (refine Ru.go ?_; intro K hK; simp [go_sem, h40', h24']; (try simp (disch := omega) only [z_h, z_i, eq_self, true_and]); (first | apply hK | ((try refine .inl ?_); refine ⟨_, by (try intro hc); (repeat' first | exact f41s | exact hc | refine And.intro ?_ ?_ | simp [go_sem, h40', h24']); first | done | omega, ?_⟩; first | apply hK | (refine ⟨by simp [go_sem, h40', h24'], ?_⟩; first | apply hK | refine ⟨by simp [go_sem, h40', h24'], hK _ _ ?_⟩)) | refine ⟨.one (.one (.bool false)), by simp [go_sem, h40', h24'], hK _ _ ?_⟩ | refine ⟨by first | omega | (simp [z_f, z_g, h40', h24']; first | done | omega), ?_⟩ | refine ⟨hK _ ?_, fun h => ?_⟩ | refine ⟨?_, ?_⟩); all_goals ((try apply hK); clear hK K))
   refine z_k (fun n e => ∃ i : Nat, i + n = l.length /\ (List.range i).all (okDeclAt l) = true /\ e = [(4, .sv (.one (.int .i64 i))), (3, .sv (.one (.int .i64 ((allF (l.take i)).length : Nat)))), (0, .sv (.one (.sl (l.map encD))))]) l.length _ ⟨0, by simp, by simp, rfl⟩ (by simp [go_sem, allF]) ?_
   rintro n e ⟨i, hi, hall, rfl⟩
   by_cases hlt : i < l.length
   ·have hfi := hf l[i] (List.getElem_mem hlt)
    obtain ⟨hd1, hd2, hd3⟩ := hdl l[i] (List.getElem_mem hlt)
    have hok := okDeclAt_get hlt
    have hbad : okDeclAt l i = false -> validD l = false := fun h => by simp [validD, range_all_no hlt h]
    have hat := allF_take_le (k := i) hf
    have hsc := congrArg List.length (allF_succ hlt)
    rw [List.length_append] at hsc
    obtain ⟨d, hd⟩ : ∃ d, l[i] = d := ⟨_, rfl⟩
    rw [hd] at hfi hok hsc hd1 hd2 hd3
    repeat' first | refine St.go ?_ | ((with_reducible refine z_Y (t := ?_) ?hc (fun h => ?_) (fun h => ?_)); (case hc => rfl); all_goals (try simp [go_sem, hlt, hd, encD] at h); all_goals try omega) | (refine Ru.go ?_; intro K hK; simp [go_sem, hlt, hd, encD]; (try simp (disch := omega) only [z_h, z_i, eq_self, true_and]); (first | apply hK | refine ⟨by first | omega | (simp [z_f, z_g, hlt, hd, encD]; first | done | omega), ?_⟩ | refine ⟨hK _ ?_, fun h => ?_⟩ | refine ⟨?_, ?_⟩); all_goals ((try apply hK); clear hK K))
    refine z_k (fun q e => ∃ k : Nat, k + q = i /\ (l.take k).any (fun x => x.name == d.name) = false /\ e = [(6, .sv (.one (.int .i64 k))), (5, .sv (.one (.bx (encD d)))), (4, .sv (.one (.int .i64 i))), (3, .sv (.one (.int .i64 ((allF (l.take i)).length : Nat)))), (0, .sv (.one (.sl (l.map encD))))]) i _ ⟨0, by simp, by simp, rfl⟩ (by simp [go_sem, encD]) ?_
    rintro q e ⟨k, hk, hany, rfl⟩
    by_cases hki : k < i
    ·have hkl : k < l.length := by omega
     cases hx : (l[k].name == d.name) with
     | true =>
       have hv := hbad (by rw [hok, any_no (p := fun x => x.name == d.name) hkl hx hki]; simp)
       repeat' first | refine St.go ?_ | ((with_reducible refine z_Y (t := ?_) ?hc (fun h => ?_) (fun h => ?_)); (case hc => rfl); all_goals (try simp [go_sem, hki, hkl, hx, encD] at h); all_goals try omega) | (refine Ru.go ?_; intro K hK; simp [go_sem, hki, hkl, hx, encD]; (try simp (disch := omega) only [z_h, z_i, eq_self, true_and]); (first | apply hK | refine ⟨by first | omega | (simp [z_f, z_g, hki, hkl, hx, encD]; first | done | omega), ?_⟩ | refine ⟨hK _ ?_, fun h => ?_⟩ | refine ⟨?_, ?_⟩); all_goals ((try apply hK); clear hK K))
       simp [go_sem, hv]
     | false =>
       repeat' first | refine St.go ?_ | ((with_reducible refine z_Y (t := ?_) ?hc (fun h => ?_) (fun h => ?_)); (case hc => rfl); all_goals (try simp [go_sem, hki, hkl, hx, encD] at h); all_goals try omega) | (refine Ru.go ?_; intro K hK; simp [go_sem, hki, hkl, hx, encD]; (try simp (disch := omega) only [z_h, z_i, eq_self, true_and]); (first | apply hK | refine ⟨by first | omega | (simp [z_f, z_g, hki, hkl, hx, encD]; first | done | omega), ?_⟩ | refine ⟨hK _ ?_, fun h => ?_⟩ | refine ⟨?_, ?_⟩); all_goals ((try apply hK); clear hK K))
       refine z_j (q - 1) _ (by omega) ⟨k + 1, by omega, ?_, rfl⟩ ?_
       ·rw [any_succ hkl, hany, hx]; rfl
       ·simp [go_sem, encD]
    ·have hke : k = i := by omega
     subst hke
     repeat' first | refine St.go ?_ | ((with_reducible refine z_Y (t := ?_) ?hc (fun h => ?_) (fun h => ?_)); (case hc => rfl); all_goals (try simp [go_sem, hki] at h); all_goals try omega) | (refine Ru.go ?_; intro K hK; simp [go_sem, hki]; (try simp (disch := omega) only [z_h, z_i, eq_self, true_and]); (first | apply hK | refine ⟨by first | omega | (simp [z_f, z_g, hki]; first | done | omega), ?_⟩ | refine ⟨hK _ ?_, fun h => ?_⟩ | refine ⟨?_, ?_⟩); all_goals ((try apply hK); clear hK K))
     refine z_k (fun q e => ∃ k' : Nat, k' + q = d.fields.length /\ (List.range k').all (okFieldAt d.fields) = true /\ e = [(7, .sv (.one (.int .i64 k'))), (5, .sv (.one (.bx (encD d)))), (4, .sv (.one (.int .i64 k))), (3, .sv (.one (.int .i64 ((allF (l.take k)).length : Nat)))), (0, .sv (.one (.sl (l.map encD))))]) d.fields.length _ ⟨0, by simp, by simp, rfl⟩ (by simp [go_sem, encD]) ?_
     rintro q2 e ⟨m, hm, hfa, rfl⟩
     by_cases hml : m < d.fields.length
     ·have hfo := okFieldAt_get hml
      have hfbad : okFieldAt d.fields m = false -> validD l = false := fun h => hbad (by rw [hok]; simp [okFields, range_all_no hml h])
      obtain ⟨f, hfe⟩ : ∃ f, d.fields[m] = f := ⟨_, rfl⟩
      rw [hfe] at hfo
      have f98s := f98 f.name
      have f116s := f116 f.kind f.lo f.hi f.name
      have hge : goodSort ⟨f.name, f.kind, f.lo, f.hi⟩ = goodSort f := rfl
      rw [hge] at f116s
      cases hgs : goodSort f with
      | false =>
        have hv := hfbad (by rw [hfo, hgs]; simp)
        rw [hgs] at f116s
        repeat' first | refine St.go ?_ | ((with_reducible refine z_Y (t := ?_) ?hc (fun h => ?_) (fun h => ?_)); (case hc => rfl); all_goals (try simp [go_sem, hml, hfe, encD, encF] at h); all_goals try omega) | (refine Ru.go ?_; intro K hK; simp [go_sem, hml, hfe, encD, encF]; (try simp (disch := omega) only [z_h, z_i, eq_self, true_and]); (first | apply hK | ((try refine .inl ?_); refine ⟨_, by (try intro hc); (repeat' first | exact f116s | exact hc | refine And.intro ?_ ?_ | simp [go_sem, hml, hfe, encD, encF]); first | done | omega, ?_⟩; first | apply hK | (refine ⟨by simp [go_sem, hml, hfe, encD, encF], ?_⟩; first | apply hK | refine ⟨by simp [go_sem, hml, hfe, encD, encF], hK _ _ ?_⟩)) | refine ⟨.one (.one (.bool false)), by simp [go_sem, hml, hfe, encD, encF], hK _ _ ?_⟩ | refine ⟨by first | omega | (simp [z_f, z_g, hml, hfe, encD, encF]; first | done | omega), ?_⟩ | refine ⟨hK _ ?_, fun h => ?_⟩ | refine ⟨?_, ?_⟩); all_goals ((try apply hK); clear hK K))
        simp [go_sem, hv]
      | true =>
        rw [hgs] at f116s
        cases hw : isWord f.name with
        | false =>
          have hv := hfbad (by rw [hfo, hw]; rfl)
          rw [hw] at f98s
          repeat' first | refine St.go ?_ | ((with_reducible refine z_Y (t := ?_) ?hc (fun h => ?_) (fun h => ?_)); (case hc => rfl); all_goals (try simp [go_sem, hml, hfe, encD, encF] at h); all_goals try omega) | (refine Ru.go ?_; intro K hK; simp [go_sem, hml, hfe, encD, encF]; (try simp (disch := omega) only [z_h, z_i, eq_self, true_and]); (first | apply hK | ((try refine .inl ?_); refine ⟨_, by (try intro hc); (repeat' first | exact f98s | exact f116s | exact hc | refine And.intro ?_ ?_ | simp [go_sem, hml, hfe, encD, encF]); first | done | omega, ?_⟩; first | apply hK | (refine ⟨by simp [go_sem, hml, hfe, encD, encF], ?_⟩; first | apply hK | refine ⟨by simp [go_sem, hml, hfe, encD, encF], hK _ _ ?_⟩)) | refine ⟨.one (.one (.bool false)), by simp [go_sem, hml, hfe, encD, encF], hK _ _ ?_⟩ | refine ⟨by first | omega | (simp [z_f, z_g, hml, hfe, encD, encF]; first | done | omega), ?_⟩ | refine ⟨hK _ ?_, fun h => ?_⟩ | refine ⟨?_, ?_⟩); all_goals ((try apply hK); clear hK K))
          simp [go_sem, hv]
        | true =>
          rw [hw] at f98s
          repeat' first | refine St.go ?_ | ((with_reducible refine z_Y (t := ?_) ?hc (fun h => ?_) (fun h => ?_)); (case hc => rfl); all_goals (try simp [go_sem, hml, hfe, encD, encF] at h); all_goals try omega) | (refine Ru.go ?_; intro K hK; simp [go_sem, hml, hfe, encD, encF]; (try simp (disch := omega) only [z_h, z_i, eq_self, true_and]); (first | apply hK | ((try refine .inl ?_); refine ⟨_, by (try intro hc); (repeat' first | exact f98s | exact f116s | exact hc | refine And.intro ?_ ?_ | simp [go_sem, hml, hfe, encD, encF]); first | done | omega, ?_⟩; first | apply hK | (refine ⟨by simp [go_sem, hml, hfe, encD, encF], ?_⟩; first | apply hK | refine ⟨by simp [go_sem, hml, hfe, encD, encF], hK _ _ ?_⟩)) | refine ⟨.one (.one (.bool false)), by simp [go_sem, hml, hfe, encD, encF], hK _ _ ?_⟩ | refine ⟨by first | omega | (simp [z_f, z_g, hml, hfe, encD, encF]; first | done | omega), ?_⟩ | refine ⟨hK _ ?_, fun h => ?_⟩ | refine ⟨?_, ?_⟩); all_goals ((try apply hK); clear hK K))
          refine z_k (fun q e => ∃ j : Nat, j + q = m /\ (d.fields.take j).any (fun x => x.name == f.name) = false /\ e = [(8, .sv (.one (.int .i64 j))), (7, .sv (.one (.int .i64 m))), (5, .sv (.one (.bx (encD d)))), (4, .sv (.one (.int .i64 k))), (3, .sv (.one (.int .i64 ((allF (l.take k)).length : Nat)))), (0, .sv (.one (.sl (l.map encD))))]) m _ ⟨0, by simp, by simp, rfl⟩ (by simp [go_sem, encD]) ?_
          rintro q3 e ⟨j, hj, hany2, rfl⟩
          by_cases hjm : j < m
          ·have hjl : j < d.fields.length := by omega
           cases hx : (d.fields[j].name == f.name) with
           | true =>
             have hv := hfbad (by rw [hfo, any_no (p := fun x => x.name == f.name) hjl hx hjm]; simp)
             repeat' first | refine St.go ?_ | ((with_reducible refine z_Y (t := ?_) ?hc (fun h => ?_) (fun h => ?_)); (case hc => rfl); all_goals (try simp [go_sem, hjm, hjl, hml, hx, hfe, encD, encF] at h); all_goals try omega) | (refine Ru.go ?_; intro K hK; simp [go_sem, hjm, hjl, hml, hx, hfe, encD, encF]; (try simp (disch := omega) only [z_h, z_i, eq_self, true_and]); (first | apply hK | refine ⟨by first | omega | (simp [z_f, z_g, hjm, hjl, hml, hx, hfe, encD, encF]; first | done | omega), ?_⟩ | refine ⟨hK _ ?_, fun h => ?_⟩ | refine ⟨?_, ?_⟩); all_goals ((try apply hK); clear hK K))
             simp [go_sem, hv]
           | false =>
             repeat' first | refine St.go ?_ | ((with_reducible refine z_Y (t := ?_) ?hc (fun h => ?_) (fun h => ?_)); (case hc => rfl); all_goals (try simp [go_sem, hjm, hjl, hml, hx, hfe, encD, encF] at h); all_goals try omega) | (refine Ru.go ?_; intro K hK; simp [go_sem, hjm, hjl, hml, hx, hfe, encD, encF]; (try simp (disch := omega) only [z_h, z_i, eq_self, true_and]); (first | apply hK | refine ⟨by first | omega | (simp [z_f, z_g, hjm, hjl, hml, hx, hfe, encD, encF]; first | done | omega), ?_⟩ | refine ⟨hK _ ?_, fun h => ?_⟩ | refine ⟨?_, ?_⟩); all_goals ((try apply hK); clear hK K))
             refine z_j (q3 - 1) _ (by omega) ⟨j + 1, by omega, ?_, rfl⟩ ?_
             ·rw [any_succ hjl, hany2, hx]; rfl
             ·simp [go_sem, encD]
          ·have hje : j = m := by omega
           subst hje
           have hfo' : okFieldAt d.fields j = true := by rw [hfo, hw, hgs, hany2]; rfl
           repeat' first | refine St.go ?_ | ((with_reducible refine z_Y (t := ?_) ?hc (fun h => ?_) (fun h => ?_)); (case hc => rfl); all_goals (try simp [go_sem, hjm] at h); all_goals try omega) | (refine Ru.go ?_; intro K hK; simp [go_sem, hjm]; (try simp (disch := omega) only [z_h, z_i, eq_self, true_and]); (first | apply hK | refine ⟨by first | omega | (simp [z_f, z_g, hjm]; first | done | omega), ?_⟩ | refine ⟨hK _ ?_, fun h => ?_⟩ | refine ⟨?_, ?_⟩); all_goals ((try apply hK); clear hK K))
           refine z_j (q2 - 1) _ (by omega) ⟨j + 1, by omega, ?_, rfl⟩ ?_
           ·rw [range_succ_all, hfa, hfo']; rfl
           ·simp [go_sem, encD]
     ·have hme : m = d.fields.length := by omega
      rw [hme] at hfa
      have hfs : okFields d.fields = true := hfa
      have f117s := f117 d.name hd3
      have f118s := f118 l d hl hf hd1 hd2
      rw [<- hA] at f118s
      cases hp : isPath d.name with
      | false =>
        have hv := hbad (by rw [hok, hp]; rfl)
        rw [hp] at f117s
        repeat' first | refine St.go ?_ | ((with_reducible refine z_Y (t := ?_) ?hc (fun h => ?_) (fun h => ?_)); (case hc => rfl); all_goals (try simp [go_sem, hml, encD] at h); all_goals try omega) | (refine Ru.go ?_; intro K hK; simp [go_sem, hml, encD]; (try simp (disch := omega) only [z_h, z_i, eq_self, true_and]); (first | apply hK | ((try refine .inl ?_); refine ⟨_, by (try intro hc); (repeat' first | exact f117s | exact hc | refine And.intro ?_ ?_ | simp [go_sem, hml, encD]); first | done | omega, ?_⟩; first | apply hK | (refine ⟨by simp [go_sem, hml, encD], ?_⟩; first | apply hK | refine ⟨by simp [go_sem, hml, encD], hK _ _ ?_⟩)) | refine ⟨.one (.one (.bool false)), by simp [go_sem, hml, encD], hK _ _ ?_⟩ | refine ⟨by first | omega | (simp [z_f, z_g, hml, encD]; first | done | omega), ?_⟩ | refine ⟨hK _ ?_, fun h => ?_⟩ | refine ⟨?_, ?_⟩); all_goals ((try apply hK); clear hK K))
        simp [go_sem, hv]
      | true =>
        rw [hp] at f117s
        by_cases h4 : d.fields.length <= 4
        ·have h4' : ¬ (4 : Int) < (d.fields.length : Int) := by omega
         by_cases hfst : d.first = ((allF (l.take k)).length : Int)
         ·have hfst' : (d.first != ((allF (l.take k)).length : Int)) = false := by simp [hfst]
          cases hgd : okGuard all d with
          | false =>
            have hv := hbad (by rw [hok, <- hA, hgd]; simp)
            rw [hgd] at f118s
            repeat' first | refine St.go ?_ | ((with_reducible refine z_Y (t := ?_) ?hc (fun h => ?_) (fun h => ?_)); (case hc => rfl); all_goals (try simp [go_sem, hml, h4', hfst', encD] at h); all_goals try omega) | (refine Ru.go ?_; intro K hK; simp [go_sem, hml, h4', hfst', encD]; (try simp (disch := omega) only [z_h, z_i, eq_self, true_and]); (first | apply hK | ((try refine .inl ?_); refine ⟨_, by (try intro hc); (repeat' first | exact f117s | exact f118s | exact hc | refine And.intro ?_ ?_ | simp [go_sem, hml, h4', hfst', encD]); first | done | omega, ?_⟩; first | apply hK | (refine ⟨by simp [go_sem, hml, h4', hfst', encD], ?_⟩; first | apply hK | refine ⟨by simp [go_sem, hml, h4', hfst', encD], hK _ _ ?_⟩)) | refine ⟨.one (.one (.bool false)), by simp [go_sem, hml, h4', hfst', encD], hK _ _ ?_⟩ | refine ⟨by first | omega | (simp [z_f, z_g, hml, h4', hfst', encD]; first | done | omega), ?_⟩ | refine ⟨hK _ ?_, fun h => ?_⟩ | refine ⟨?_, ?_⟩); all_goals ((try apply hK); clear hK K))
            simp [go_sem, hv]
          | true =>
            have hoi : okDeclAt l k = true := by rw [hok, <- hA, hgd, hp, hany, hfs]; simp [h4, hfst]
            rw [hgd] at f118s
            repeat' first | refine St.go ?_ | ((with_reducible refine z_Y (t := ?_) ?hc (fun h => ?_) (fun h => ?_)); (case hc => rfl); all_goals (try simp [go_sem, hml, h4', hfst', encD] at h); all_goals try omega) | (refine Ru.go ?_; intro K hK; simp [go_sem, hml, h4', hfst', encD]; (try simp (disch := omega) only [z_h, z_i, eq_self, true_and]); (first | apply hK | ((try refine .inl ?_); refine ⟨_, by (try intro hc); (repeat' first | exact f117s | exact f118s | exact hc | refine And.intro ?_ ?_ | simp [go_sem, hml, h4', hfst', encD]); first | done | omega, ?_⟩; first | apply hK | (refine ⟨by simp [go_sem, hml, h4', hfst', encD], ?_⟩; first | apply hK | refine ⟨by simp [go_sem, hml, h4', hfst', encD], hK _ _ ?_⟩)) | refine ⟨.one (.one (.bool false)), by simp [go_sem, hml, h4', hfst', encD], hK _ _ ?_⟩ | refine ⟨by first | omega | (simp [z_f, z_g, hml, h4', hfst', encD]; first | done | omega), ?_⟩ | refine ⟨hK _ ?_, fun h => ?_⟩ | refine ⟨?_, ?_⟩); all_goals ((try apply hK); clear hK K))
            refine z_j (n - 1) _ (by omega) ⟨k + 1, by omega, ?_, rfl⟩ ?_
            ·rw [range_succ_all, hall, hoi]; rfl
            ·simp [go_sem, hsc]
         ·have hv := hbad (by rw [hok]; simp [hfst])
          repeat' first | refine St.go ?_ | ((with_reducible refine z_Y (t := ?_) ?hc (fun h => ?_) (fun h => ?_)); (case hc => rfl); all_goals (try simp [go_sem, hml, h4', hfst, encD] at h); all_goals try omega) | (refine Ru.go ?_; intro K hK; simp [go_sem, hml, h4', hfst, encD]; (try simp (disch := omega) only [z_h, z_i, eq_self, true_and]); (first | apply hK | ((try refine .inl ?_); refine ⟨_, by (try intro hc); (repeat' first | exact f117s | exact hc | refine And.intro ?_ ?_ | simp [go_sem, hml, h4', hfst, encD]); first | done | omega, ?_⟩; first | apply hK | (refine ⟨by simp [go_sem, hml, h4', hfst, encD], ?_⟩; first | apply hK | refine ⟨by simp [go_sem, hml, h4', hfst, encD], hK _ _ ?_⟩)) | refine ⟨.one (.one (.bool false)), by simp [go_sem, hml, h4', hfst, encD], hK _ _ ?_⟩ | refine ⟨by first | omega | (simp [z_f, z_g, hml, h4', hfst, encD]; first | done | omega), ?_⟩ | refine ⟨hK _ ?_, fun h => ?_⟩ | refine ⟨?_, ?_⟩); all_goals ((try apply hK); clear hK K))
          simp [go_sem, hv]
        ·have h4' : (4 : Int) < (d.fields.length : Int) := by omega
         have hv := hbad (by rw [hok]; simp [h4])
         repeat' first | refine St.go ?_ | ((with_reducible refine z_Y (t := ?_) ?hc (fun h => ?_) (fun h => ?_)); (case hc => rfl); all_goals (try simp [go_sem, hml, h4', encD] at h); all_goals try omega) | (refine Ru.go ?_; intro K hK; simp [go_sem, hml, h4', encD]; (try simp (disch := omega) only [z_h, z_i, eq_self, true_and]); (first | apply hK | ((try refine .inl ?_); refine ⟨_, by (try intro hc); (repeat' first | exact f117s | exact hc | refine And.intro ?_ ?_ | simp [go_sem, hml, h4', encD]); first | done | omega, ?_⟩; first | apply hK | (refine ⟨by simp [go_sem, hml, h4', encD], ?_⟩; first | apply hK | refine ⟨by simp [go_sem, hml, h4', encD], hK _ _ ?_⟩)) | refine ⟨.one (.one (.bool false)), by simp [go_sem, hml, h4', encD], hK _ _ ?_⟩ | refine ⟨by first | omega | (simp [z_f, z_g, hml, h4', encD]; first | done | omega), ?_⟩ | refine ⟨hK _ ?_, fun h => ?_⟩ | refine ⟨?_, ?_⟩); all_goals ((try apply hK); clear hK K))
         simp [go_sem, hv]
   ·have hie : i = l.length := by omega
    rw [hie] at hall
    repeat' first | refine St.go ?_ | ((with_reducible refine z_Y (t := ?_) ?hc (fun h => ?_) (fun h => ?_)); (case hc => rfl); all_goals (try simp [go_sem, hlt] at h); all_goals try omega) | (refine Ru.go ?_; intro K hK; simp [go_sem, hlt]; (try simp (disch := omega) only [z_h, z_i, eq_self, true_and]); (first | apply hK | refine ⟨by first | omega | (simp [z_f, z_g, hlt]; first | done | omega), ?_⟩ | refine ⟨hK _ ?_, fun h => ?_⟩ | refine ⟨?_, ?_⟩); all_goals ((try apply hK); clear hK K))
    have hv : validD l = true := by simp only [validD, h40, decide_true, Bool.true_and, <- hA, h24, hall]
    simp [go_sem, hv]
  ·have h24' : (24 : Int) < (all.length : Int) := by omega
   repeat' first | refine St.go ?_ | ((with_reducible refine z_Y (t := ?_) ?hc (fun h => ?_) (fun h => ?_)); (case hc => rfl); all_goals (try simp [go_sem, h40', h24'] at h); all_goals try omega) | (refine Ru.go ?_; intro K hK; simp [go_sem, h40', h24']; (try simp (disch := omega) only [z_h, z_i, eq_self, true_and]); (first | apply hK | ((try refine .inl ?_); refine ⟨_, by (try intro hc); (repeat' first | exact f41s | exact hc | refine And.intro ?_ ?_ | simp [go_sem, h40', h24']); first | done | omega, ?_⟩; first | apply hK | (refine ⟨by simp [go_sem, h40', h24'], ?_⟩; first | apply hK | refine ⟨by simp [go_sem, h40', h24'], hK _ _ ?_⟩)) | refine ⟨.one (.one (.bool false)), by simp [go_sem, h40', h24'], hK _ _ ?_⟩ | refine ⟨by first | omega | (simp [z_f, z_g, h40', h24']; first | done | omega), ?_⟩ | refine ⟨hK _ ?_, fun h => ?_⟩ | refine ⟨?_, ?_⟩); all_goals ((try apply hK); clear hK K))
   have hv : validD l = false := by simp [validD, <- hA, h24]
   simp [go_sem, hv]
 ·have h40' : (40 : Int) < (l.length : Int) := by omega
  repeat' first | refine St.go ?_ | ((with_reducible refine z_Y (t := ?_) ?hc (fun h => ?_) (fun h => ?_)); (case hc => rfl); all_goals (try simp [go_sem, h40'] at h); all_goals try omega) | (refine Ru.go ?_; intro K hK; simp [go_sem, h40']; (try simp (disch := omega) only [z_h, z_i, eq_self, true_and]); (first | apply hK | refine ⟨by first | omega | (simp [z_f, z_g, h40']; first | done | omega), ?_⟩ | refine ⟨hK _ ?_, fun h => ?_⟩ | refine ⟨?_, ?_⟩); all_goals ((try apply hK); clear hK K))
  have hv : validD l = false := by simp [validD, h40]
  simp [go_sem, hv]
end Go.Av
namespace Go.Av
open Go Go.RowKit Go.Proofs
set_option maxRecDepth 8000
def boundsAt (d : Dcl) (i : Nat) : List Dff := match d.fields[i]? with
 | some f => [⟨d.first + i, -1, f.hi⟩, ⟨-1, d.first + i, 0 - f.lo⟩]
 | none => []
def boundsF (d : Dcl) (k : Nat) : List Dff := (List.range k).flatMap (boundsAt d)
def boundsE (es : List (Int × Int)) : List Dff := es.flatMap fun e => [⟨e.1, e.2, 0⟩, ⟨e.2, e.1, 0⟩]
def boundsOf (d : Dcl) : List Dff := boundsF d d.fields.length ++ d.diffs ++ boundsE d.equals
theorem boundsF_succ {d : Dcl} {k : Nat} (h : k < d.fields.length) : boundsF d (k + 1) = boundsF d k ++ [⟨d.first + k, -1, d.fields[k].hi⟩, ⟨-1, d.first + k, 0 - d.fields[k].lo⟩] := by
 simp [boundsF, List.range_succ, boundsAt, h]
theorem boundsF_len (d : Dcl) : ∀ k, (boundsF d k).length <= 2 * k
 | 0 => by simp [boundsF]
 | k + 1 => by
   have ih := boundsF_len d k
   have : (boundsAt d k).length <= 2 := by unfold boundsAt; split <;> simp
   have e : boundsF d (k + 1) = boundsF d k ++ boundsAt d k := by simp [boundsF, List.range_succ]
   rw [e, List.length_append]
   omega
theorem boundsE_len : ∀ l : List (Int × Int), (boundsE l).length = 2 * l.length
 | [] => rfl
 | e :: l => by
   have := boundsE_len l
   simp only [boundsE, List.flatMap_cons, List.length_append, List.length_cons, List.length_nil] at this ⊢
   omega
theorem boundsE_succ {l : List (Int × Int)} {k : Nat} (h : k < l.length) : boundsE (l.take (k + 1)) = boundsE (l.take k) ++ [⟨l[k].1, l[k].2, 0⟩, ⟨l[k].2, l[k].1, 0⟩] := by
 unfold boundsE
 rw [List.take_succ_eq_append_getElem h, List.flatMap_append]
 simp
theorem f124 (d : Dcl) (hf : d.fields.length <= 100) (hd : d.diffs.length <= 1000) (he : d.equals.length <= 1000) (hfst : -1000000 <= d.first /\ d.first <= 1000000) (hlo : ∀ f ∈ d.fields, -1000000 <= f.lo /\ f.lo <= 1000000) :
  Impl Tryz.prog 124 [.ag (encD d)] (.one (.one (.ow 3 ((boundsOf d).map encDf)))) := by
 refine impl_w Tryz.func124 z124 Tryz.ntmps124 (by simp) ?_
 simp only [slotsOf]
 conv => arg 2; reduce
 repeat' first | refine St.go ?_ | ((with_reducible refine z_Y (t := ?_) ?hc (fun h => ?_) (fun h => ?_)); (case hc => rfl); all_goals (try simp [go_sem, encD] at h); all_goals try omega) | (refine Ru.go ?_; intro K hK; simp [go_sem, encD]; (try simp (disch := omega) only [z_h, z_i, eq_self, true_and]); (first | apply hK | refine ⟨by first | omega | (simp [z_f, z_g, encD]; first | done | omega), ?_⟩ | refine ⟨hK _ ?_, fun h => ?_⟩ | refine ⟨?_, ?_⟩); all_goals ((try apply hK); clear hK K))
 refine z_k (fun n e => ∃ k : Nat, k + n = d.fields.length /\ e = [(11, .sv (.one (.int .i64 k))), (10, .sv (.one (.int .i64 d.fields.length))), (9, .sv (.one (.sl (d.fields.map encF)))), (3, .sv (.one (.ow 3 ((boundsF d k).map encDf)))), (1, .sv (.one (.bx (encD d))))]) d.fields.length _ ⟨0, by simp, rfl⟩ (by simp [go_sem, boundsF, encD]) ?_
 rintro n e ⟨k, hk, rfl⟩
 by_cases hlt : k < d.fields.length
 ·have hbl := boundsF_len d k
  have hs := boundsF_succ hlt
  obtain ⟨f, hfe⟩ : ∃ f, d.fields[k] = f := ⟨_, rfl⟩
  have hlo' := hlo d.fields[k] (List.getElem_mem hlt)
  rw [hfe] at hlo' hs
  have w1 : IntKind.i64.wrap (d.first + (k : Int)) = d.first + k := z_h (by omega) (by omega)
  have w2 : IntKind.i64.wrap (0 - f.lo) = 0 - f.lo := z_h (by omega) (by omega)
  have w3 : IntKind.i64.wrap (-f.lo) = 0 - f.lo := by rw [z_h (by omega) (by omega)]; omega
  repeat' first | refine St.go ?_ | ((with_reducible refine z_Y (t := ?_) ?hc (fun h => ?_) (fun h => ?_)); (case hc => rfl); all_goals (try simp [go_sem, hlt, hfe, encD, encF, w1, w2, w3] at h); all_goals try omega) | (refine Ru.go ?_; intro K hK; simp [go_sem, hlt, hfe, encD, encF, w1, w2, w3]; (try simp (disch := omega) only [z_h, z_i, eq_self, true_and]); (first | apply hK | refine ⟨by first | omega | (simp [z_f, z_g, hlt, hfe, encD, encF, w1, w2, w3, maxLen, DV.flat, encDf]; first | done | omega), ?_⟩ | refine ⟨hK _ ?_, fun h => ?_⟩ | refine ⟨?_, ?_⟩); all_goals ((try apply hK); clear hK K))
  refine z_j (n - 1) _ (by omega) ⟨k + 1, by omega, rfl⟩ ?_
  simp [go_sem, hs, encD, encDf]
 ·have hke : k = d.fields.length := by omega
  subst hke
  have hbl := boundsF_len d d.fields.length
  repeat' first | refine St.go ?_ | ((with_reducible refine z_Y (t := ?_) ?hc (fun h => ?_) (fun h => ?_)); (case hc => rfl); all_goals (try simp [go_sem, hlt, encD] at h); all_goals try omega) | (refine Ru.go ?_; intro K hK; simp [go_sem, hlt, encD]; (try simp (disch := omega) only [z_h, z_i, eq_self, true_and]); (first | apply hK | refine ⟨by first | omega | (simp [z_f, z_g, hlt, encD, maxLen, DV.flat, encDf]; first | done | omega), ?_⟩ | refine ⟨hK _ ?_, fun h => ?_⟩ | refine ⟨?_, ?_⟩); all_goals ((try apply hK); clear hK K))
  refine z_k (fun n e => ∃ k : Nat, k + n = d.equals.length /\ e = [(46, .sv (.one (.int .i64 k))), (45, .sv (.one (.int .i64 d.equals.length))), (44, .sv (.one (.sl (d.equals.map encEq)))), (3, .sv (.one (.ow 3 ((boundsF d d.fields.length ++ d.diffs ++ boundsE (d.equals.take k)).map encDf))))]) d.equals.length _ ⟨0, by simp, rfl⟩ (by simp [go_sem, boundsE]) ?_
  rintro n e ⟨k, hk, rfl⟩
  by_cases hlt2 : k < d.equals.length
  ·have hbe := boundsE_len (d.equals.take k)
   have htk : (d.equals.take k).length <= d.equals.length := by rw [List.length_take]; omega
   have hs := boundsE_succ hlt2
   repeat' first | refine St.go ?_ | ((with_reducible refine z_Y (t := ?_) ?hc (fun h => ?_) (fun h => ?_)); (case hc => rfl); all_goals (try simp [go_sem, hlt2, encEq] at h); all_goals try omega) | (refine Ru.go ?_; intro K hK; simp [go_sem, hlt2, encEq]; (try simp (disch := omega) only [z_h, z_i, eq_self, true_and]); (first | apply hK | refine ⟨by first | omega | (simp [z_f, z_g, hlt2, encEq, maxLen, DV.flat, encDf]; first | done | omega), ?_⟩ | refine ⟨hK _ ?_, fun h => ?_⟩ | refine ⟨?_, ?_⟩); all_goals ((try apply hK); clear hK K))
   refine z_j (n - 1) _ (by omega) ⟨k + 1, by omega, rfl⟩ ?_
   simp [go_sem, hs, encDf]
  ·have hkl : d.equals.take k = d.equals := List.take_of_length_le (by omega)
   repeat' first | refine St.go ?_ | ((with_reducible refine z_Y (t := ?_) ?hc (fun h => ?_) (fun h => ?_)); (case hc => rfl); all_goals (try simp [go_sem, hlt2, hkl] at h); all_goals try omega) | (refine Ru.go ?_; intro K hK; simp [go_sem, hlt2, hkl]; (try simp (disch := omega) only [z_h, z_i, eq_self, true_and]); (first | apply hK | refine ⟨by first | omega | (simp [z_f, z_g, hlt2, hkl]; first | done | omega), ?_⟩ | refine ⟨hK _ ?_, fun h => ?_⟩ | refine ⟨?_, ?_⟩); all_goals ((try apply hK); clear hK K))
   simp [go_sem, boundsOf]
end Go.Av
namespace Go.Av
open Go Go.RowKit Go.Proofs
set_option maxRecDepth 8000
theorem validD_decl {l : List Dcl} (hv : validD l = true) {i : Nat} (hi : i < l.length) : isPath l[i].name = true /\ l[i].fields.length <= 4 /\ l[i].first = ((allF (l.take i)).length : Int) /\ okFields l[i].fields = true /\ okGuard (allF l) l[i] = true := by
 simp only [validD, Bool.and_eq_true, List.all_eq_true, List.mem_range] at hv
 have h := hv.2 i hi
 rw [okDeclAt_get hi] at h
 simp only [Bool.and_eq_true, decide_eq_true_eq] at h
 exact ⟨h.1.1.1.1.1, h.1.1.1.1.2, h.1.1.1.2, h.1.2, h.2⟩
theorem validD_24 {l : List Dcl} (hv : validD l = true) : (allF l).length <= 24 := by
 simp only [validD, Bool.and_eq_true, decide_eq_true_eq] at hv
 exact hv.1.2
theorem okFields_sort {fs : List Fld} (h : okFields fs = true) : ∀ f ∈ fs, goodSort f = true := by
 intro f hf
 obtain ⟨k, hk, rfl⟩ := List.mem_iff_getElem.1 hf
 simp only [okFields, List.all_eq_true, List.mem_range] at h
 have := h k hk
 rw [okFieldAt_get hk] at this
 simp only [Bool.and_eq_true] at this
 exact this.1.2
theorem goodSort_lo {f : Fld} (h : goodSort f = true) : -1000 <= f.lo /\ f.lo <= 1000 /\ f.hi <= 1000 /\ f.lo <= f.hi := by
 unfold goodSort at h
 split at h
 ·simp at h; omega
 ·split at h
  ·simp at h; omega
  ·cases h
def boundsR (l : List Dcl) (i : Int) : RV := if 0 <= i /\ i < l.length /\ validD l = true then .tup [.one (.ow 3 (((l[i.toNat]?.map boundsOf).getD []).map encDf)), .one (.int .i64 0)] else .tup [.one (.ow 3 []), .one (.int .i64 1)]
theorem f107 (l : List Dcl) (i : Int) (hl : l.length <= 1000) (hf : ∀ d ∈ l, d.fields.length <= 100000) : Impl Tryz.prog 107 [.one (.sl (l.map encD)), .one (.int .i64 i)] (boundsR l i) := by
 refine impl_w Tryz.func107 z107 Tryz.ntmps107 (by simp) ?_
 simp only [slotsOf]
 conv => arg 2; reduce
 have f123s := f123 l hl hf
 by_cases h0 : i < 0
 ·have hr : boundsR l i = .tup [.one (.ow 3 []), .one (.int .i64 1)] := by
   unfold boundsR
   rw [if_neg (by omega)]
  repeat' first | refine St.go ?_ | ((with_reducible refine z_Y (t := ?_) ?hc (fun h => ?_) (fun h => ?_)); (case hc => rfl); all_goals (try simp [go_sem, h0] at h); all_goals try omega) | (refine Ru.go ?_; intro K hK; simp [go_sem, h0]; (first | apply hK | refine ⟨by first | omega | (simp [z_f, z_g, h0]; first | done | omega), ?_⟩ | refine ⟨hK _ ?_, fun h => ?_⟩ | refine ⟨?_, ?_⟩); all_goals ((try apply hK); clear hK K))
  simp [go_sem, hr]
 ·by_cases hin : i < l.length
  ·have hin' : ¬ (l.length : Int) <= i := by omega
   cases hv : validD l with
   | false =>
     have hr : boundsR l i = .tup [.one (.ow 3 []), .one (.int .i64 1)] := by
      unfold boundsR
      rw [if_neg (by rw [hv]; simp)]
     rw [hv] at f123s
     repeat' first | refine St.go ?_ | ((with_reducible refine z_Y (t := ?_) ?hc (fun h => ?_) (fun h => ?_)); (case hc => rfl); all_goals (try simp [go_sem, h0, hin'] at h); all_goals try omega) | (refine Ru.go ?_; intro K hK; simp [go_sem, h0, hin']; (first | apply hK | ((try refine .inl ?_); refine ⟨_, by (try intro hc); (repeat' first | exact f123s | exact hc | refine And.intro ?_ ?_ | simp [go_sem, h0, hin']); first | done | omega, ?_⟩; first | apply hK | (refine ⟨by simp [go_sem, h0, hin'], ?_⟩; first | apply hK | refine ⟨by simp [go_sem, h0, hin'], hK _ _ ?_⟩)) | refine ⟨.one (.one (.bool false)), by simp [go_sem, h0, hin'], hK _ _ ?_⟩ | refine ⟨by first | omega | (simp [z_f, z_g, h0, hin']; first | done | omega), ?_⟩ | refine ⟨hK _ ?_, fun h => ?_⟩ | refine ⟨?_, ?_⟩); all_goals ((try apply hK); clear hK K))
     simp [go_sem, hr]
   | true =>
     obtain ⟨k, rfl⟩ : ∃ k : Nat, i = k := ⟨i.toNat, by omega⟩
     have hk : k < l.length := by omega
     obtain ⟨h1, h2, h3, h4, h5⟩ := validD_decl hv hk
     have h24 := validD_24 hv
     have hle : (allF (l.take k)).length <= (allF l).length := by
      rw [allF_split l k, List.length_append]; omega
     simp only [okGuard, Bool.and_eq_true, decide_eq_true_eq] at h5
     have f124s := f124 l[k] (by omega) (by omega) (by omega) (by omega) (fun f hf => by have := goodSort_lo (okFields_sort h4 f hf); omega)
     have hr : boundsR l k = .tup [.one (.ow 3 ((boundsOf l[k]).map encDf)), .one (.int .i64 0)] := by
      unfold boundsR
      rw [if_pos ⟨by omega, by omega, hv⟩]
      simp [hk]
     rw [hv] at f123s
     repeat' first | refine St.go ?_ | ((with_reducible refine z_Y (t := ?_) ?hc (fun h => ?_) (fun h => ?_)); (case hc => rfl); all_goals (try simp [go_sem, h0, hin', hk, encD] at h); all_goals try omega) | (refine Ru.go ?_; intro K hK; simp [go_sem, h0, hin', hk, encD]; (first | apply hK | ((try refine .inl ?_); refine ⟨_, by (try intro hc); (repeat' first | exact f123s | exact f124s | exact hc | refine And.intro ?_ ?_ | simp [go_sem, h0, hin', hk, encD]); first | done | omega, ?_⟩; first | apply hK | (refine ⟨by simp [go_sem, h0, hin', hk, encD], ?_⟩; first | apply hK | refine ⟨by simp [go_sem, h0, hin', hk, encD], hK _ _ ?_⟩)) | refine ⟨.one (.one (.bool false)), by simp [go_sem, h0, hin', hk, encD], hK _ _ ?_⟩ | refine ⟨by first | omega | (simp [z_f, z_g, h0, hin', hk, encD]; first | done | omega), ?_⟩ | refine ⟨hK _ ?_, fun h => ?_⟩ | refine ⟨?_, ?_⟩); all_goals ((try apply hK); clear hK K))
     simp [go_sem, hr]
  ·have hin' : (l.length : Int) <= i := by omega
   have hr : boundsR l i = .tup [.one (.ow 3 []), .one (.int .i64 1)] := by
    unfold boundsR
    rw [if_neg (by omega)]
   repeat' first | refine St.go ?_ | ((with_reducible refine z_Y (t := ?_) ?hc (fun h => ?_) (fun h => ?_)); (case hc => rfl); all_goals (try simp [go_sem, h0, hin'] at h); all_goals try omega) | (refine Ru.go ?_; intro K hK; simp [go_sem, h0, hin']; (first | apply hK | refine ⟨by first | omega | (simp [z_f, z_g, h0, hin']; first | done | omega), ?_⟩ | refine ⟨hK _ ?_, fun h => ?_⟩ | refine ⟨?_, ?_⟩); all_goals ((try apply hK); clear hK K))
   simp [go_sem, hr]
theorem f69 (l : List Dcl) (hl : l.length <= 1000) (hf : ∀ d ∈ l, d.fields.length <= 100000) : Impl Tryz.prog 69 [.one (.sl (l.map encD))] (.one (.one (.bool (validD l)))) := by
 refine impl_w Tryz.func69 z69 Tryz.ntmps69 (by simp) ?_
 simp only [slotsOf]
 conv => arg 2; reduce
 by_cases h0 : l.length = 0
 ·have hnil : l = [] := List.eq_nil_of_length_eq_zero h0
  have hv : validD l = true := by rw [hnil]; rfl
  repeat' first | refine St.go ?_ | ((with_reducible refine z_Y (t := ?_) ?hc (fun h => ?_) (fun h => ?_)); (case hc => rfl); all_goals (try simp [go_sem, h0] at h); all_goals try omega) | (refine Ru.go ?_; intro K hK; simp [go_sem, h0]; (first | apply hK | refine ⟨by first | omega | (simp [z_f, z_g, h0]; first | done | omega), ?_⟩ | refine ⟨hK _ ?_, fun h => ?_⟩ | refine ⟨?_, ?_⟩); all_goals ((try apply hK); clear hK K))
  simp [go_sem, hv]
 ·have f107s := f107 l 0 hl hf
  unfold boundsR at f107s
  cases hv : validD l with
  | true =>
    rw [if_pos ⟨by omega, by omega, hv⟩] at f107s
    repeat' first | refine St.go ?_ | ((with_reducible refine z_Y (t := ?_) ?hc (fun h => ?_) (fun h => ?_)); (case hc => rfl); all_goals (try simp [go_sem, h0] at h); all_goals try omega) | (refine Ru.go ?_; intro K hK; simp [go_sem, h0]; (first | apply hK | ((try refine .inl ?_); refine ⟨_, by (try intro hc); (repeat' first | exact f107s | exact hc | refine And.intro ?_ ?_ | simp [go_sem, h0]); first | done | omega, ?_⟩; first | apply hK | (refine ⟨by simp [go_sem, h0], ?_⟩; first | apply hK | refine ⟨by simp [go_sem, h0], hK _ _ ?_⟩)) | refine ⟨by first | omega | (simp [z_f, z_g, h0]; first | done | omega), ?_⟩ | refine ⟨hK _ ?_, fun h => ?_⟩ | refine ⟨?_, ?_⟩); all_goals ((try apply hK); clear hK K))
    simp [go_sem]
  | false =>
    rw [if_neg (by rw [hv]; simp)] at f107s
    repeat' first | refine St.go ?_ | ((with_reducible refine z_Y (t := ?_) ?hc (fun h => ?_) (fun h => ?_)); (case hc => rfl); all_goals (try simp [go_sem, h0] at h); all_goals try omega) | (refine Ru.go ?_; intro K hK; simp [go_sem, h0]; (first | apply hK | ((try refine .inl ?_); refine ⟨_, by (try intro hc); (repeat' first | exact f107s | exact hc | refine And.intro ?_ ?_ | simp [go_sem, h0]); first | done | omega, ?_⟩; first | apply hK | (refine ⟨by simp [go_sem, h0], ?_⟩; first | apply hK | refine ⟨by simp [go_sem, h0], hK _ _ ?_⟩)) | refine ⟨by first | omega | (simp [z_f, z_g, h0]; first | done | omega), ?_⟩ | refine ⟨hK _ ?_, fun h => ?_⟩ | refine ⟨?_, ?_⟩); all_goals ((try apply hK); clear hK K))
    simp [go_sem]
def okRoleAt (rs : List ByteArray) (k : Nat) : Bool := match rs[k]? with
 | some s => isWord s && !hasS (rs.take k) s
 | none => true
def okRoles (rs : List ByteArray) : Bool := (List.range rs.length).all (okRoleAt rs)
theorem okRoleAt_get {rs : List ByteArray} {k : Nat} (h : k < rs.length) : okRoleAt rs k = (isWord rs[k] && !hasS (rs.take k) rs[k]) := by
 unfold okRoleAt
 rw [List.getElem?_eq_getElem h]
def named (g : Glob) : Bool := isWord g.name && decide (1 <= g.roles.length) && decide (g.roles.length <= 6) && okRoles g.roles
theorem f67 (g : Glob) (hr : g.roles.length <= 1000000) : Impl Tryz.prog 67 [.ag (encG g)] (.one (.one (.bool (named g)))) := by
 refine impl_w Tryz.func67 z67 Tryz.ntmps67 (by simp) ?_
 simp only [slotsOf]
 conv => arg 2; reduce
 have f105s := f105 g.name
 cases hw : isWord g.name with
 | false =>
   have hv : named g = false := by simp [named, hw]
   rw [hw] at f105s
   repeat' first | refine St.go ?_ | ((with_reducible refine z_Y (t := ?_) ?hc (fun h => ?_) (fun h => ?_)); (case hc => rfl); all_goals (try simp [go_sem, encG] at h); all_goals try omega) | (refine Ru.go ?_; intro K hK; simp [go_sem, encG]; (try simp (disch := omega) only [z_h, z_i, eq_self, true_and]); (first | apply hK | ((try refine .inl ?_); refine ⟨_, by (try intro hc); (repeat' first | exact f105s | exact hc | refine And.intro ?_ ?_ | simp [go_sem, encG]); first | done | omega, ?_⟩; first | apply hK | (refine ⟨by simp [go_sem, encG], ?_⟩; first | apply hK | refine ⟨by simp [go_sem, encG], hK _ _ ?_⟩)) | refine ⟨.one (.one (.bool false)), by simp [go_sem, encG], hK _ _ ?_⟩ | refine ⟨by first | omega | (simp [z_f, z_g, encG]; first | done | omega), ?_⟩ | refine ⟨hK _ ?_, fun h => ?_⟩ | refine ⟨?_, ?_⟩); all_goals ((try apply hK); clear hK K))
   simp [go_sem, hv]
 | true =>
   rw [hw] at f105s
   by_cases h1 : 1 <= g.roles.length
   ·have h1' : ¬ (g.roles.length : Int) < 1 := by omega
    by_cases h6 : g.roles.length <= 6
    ·have h6' : ¬ (6 : Int) < (g.roles.length : Int) := by omega
     repeat' first | refine St.go ?_ | ((with_reducible refine z_Y (t := ?_) ?hc (fun h => ?_) (fun h => ?_)); (case hc => rfl); all_goals (try simp [go_sem, encG, h1', h6'] at h); all_goals try omega) | (refine Ru.go ?_; intro K hK; simp [go_sem, encG, h1', h6']; (try simp (disch := omega) only [z_h, z_i, eq_self, true_and]); (first | apply hK | ((try refine .inl ?_); refine ⟨_, by (try intro hc); (repeat' first | exact f105s | exact hc | refine And.intro ?_ ?_ | simp [go_sem, encG, h1', h6']); first | done | omega, ?_⟩; first | apply hK | (refine ⟨by simp [go_sem, encG, h1', h6'], ?_⟩; first | apply hK | refine ⟨by simp [go_sem, encG, h1', h6'], hK _ _ ?_⟩)) | refine ⟨.one (.one (.bool false)), by simp [go_sem, encG, h1', h6'], hK _ _ ?_⟩ | refine ⟨by first | omega | (simp [z_f, z_g, encG, h1', h6']; first | done | omega), ?_⟩ | refine ⟨hK _ ?_, fun h => ?_⟩ | refine ⟨?_, ?_⟩); all_goals ((try apply hK); clear hK K))
     refine z_k (fun n e => ∃ k : Nat, k + n = g.roles.length /\ (List.range k).all (okRoleAt g.roles) = true /\ e = [(24, .sv (.one (.int .i64 k))), (23, .sv (.one (.int .i64 g.roles.length))), (22, .sv (.one (.sl (g.roles.map encS)))), (1, .sv (.one (.bx (encG g))))]) g.roles.length _ ⟨0, by simp, by simp, rfl⟩ (by simp [go_sem, encG]) ?_
     rintro n e ⟨k, hk, hall, rfl⟩
     by_cases hlt : k < g.roles.length
     ·have hok := okRoleAt_get hlt
      have hbad : okRoleAt g.roles k = false -> named g = false := fun h => by simp [named, okRoles, range_all_no hlt h]
      obtain ⟨s, hs⟩ : ∃ s, g.roles[k] = s := ⟨_, rfl⟩
      rw [hs] at hok
      have c1 := f105 s
      have c2 := f106 (g.roles.take k) s (Nat.le_trans (List.length_take_le _ _) (by omega))
      rw [List.map_take] at c2
      cases hws : isWord s with
      | false =>
        have hv := hbad (by rw [hok, hws]; rfl)
        rw [hws] at c1
        repeat' first | refine St.go ?_ | ((with_reducible refine z_Y (t := ?_) ?hc (fun h => ?_) (fun h => ?_)); (case hc => rfl); all_goals (try simp [go_sem, hlt, hs, encG, encS] at h); all_goals try omega) | (refine Ru.go ?_; intro K hK; simp [go_sem, hlt, hs, encG, encS]; (try simp (disch := omega) only [z_h, z_i, eq_self, true_and]); (first | apply hK | ((try refine .inl ?_); refine ⟨_, by (try intro hc); (repeat' first | exact c1 | exact hc | refine And.intro ?_ ?_ | simp [go_sem, hlt, hs, encG, encS]); first | done | omega, ?_⟩; first | apply hK | (refine ⟨by simp [go_sem, hlt, hs, encG, encS], ?_⟩; first | apply hK | refine ⟨by simp [go_sem, hlt, hs, encG, encS], hK _ _ ?_⟩)) | refine ⟨.one (.one (.bool false)), by simp [go_sem, hlt, hs, encG, encS], hK _ _ ?_⟩ | refine ⟨by first | omega | (simp [z_f, z_g, hlt, hs, encG, encS]; first | done | omega), ?_⟩ | refine ⟨hK _ ?_, fun h => ?_⟩ | refine ⟨?_, ?_⟩); all_goals ((try apply hK); clear hK K))
        simp [go_sem, hv]
      | true =>
        rw [hws] at c1
        cases hh : hasS (g.roles.take k) s with
        | true =>
          have hv := hbad (by rw [hok, hh]; simp)
          rw [hh] at c2
          repeat' first | refine St.go ?_ | ((with_reducible refine z_Y (t := ?_) ?hc (fun h => ?_) (fun h => ?_)); (case hc => rfl); all_goals (try simp [go_sem, hlt, hs, encG, encS] at h); all_goals try omega) | (refine Ru.go ?_; intro K hK; simp [go_sem, hlt, hs, encG, encS]; (try simp (disch := omega) only [z_h, z_i, eq_self, true_and]); (first | apply hK | ((try refine .inl ?_); refine ⟨_, by (try intro hc); (repeat' first | exact c1 | exact c2 | exact hc | refine And.intro ?_ ?_ | simp [go_sem, hlt, hs, encG, encS]); first | done | omega, ?_⟩; first | apply hK | (refine ⟨by simp [go_sem, hlt, hs, encG, encS], ?_⟩; first | apply hK | refine ⟨by simp [go_sem, hlt, hs, encG, encS], hK _ _ ?_⟩)) | refine ⟨.one (.one (.bool false)), by simp [go_sem, hlt, hs, encG, encS], hK _ _ ?_⟩ | refine ⟨by first | omega | (simp [z_f, z_g, hlt, hs, encG, encS]; first | done | omega), ?_⟩ | refine ⟨hK _ ?_, fun h => ?_⟩ | refine ⟨?_, ?_⟩); all_goals ((try apply hK); clear hK K))
          simp [go_sem, hv]
        | false =>
          have ho : okRoleAt g.roles k = true := by rw [hok, hws, hh]; rfl
          rw [hh] at c2
          repeat' first | refine St.go ?_ | ((with_reducible refine z_Y (t := ?_) ?hc (fun h => ?_) (fun h => ?_)); (case hc => rfl); all_goals (try simp [go_sem, hlt, hs, encG, encS] at h); all_goals try omega) | (refine Ru.go ?_; intro K hK; simp [go_sem, hlt, hs, encG, encS]; (try simp (disch := omega) only [z_h, z_i, eq_self, true_and]); (first | apply hK | ((try refine .inl ?_); refine ⟨_, by (try intro hc); (repeat' first | exact c1 | exact c2 | exact hc | refine And.intro ?_ ?_ | simp [go_sem, hlt, hs, encG, encS]); first | done | omega, ?_⟩; first | apply hK | (refine ⟨by simp [go_sem, hlt, hs, encG, encS], ?_⟩; first | apply hK | refine ⟨by simp [go_sem, hlt, hs, encG, encS], hK _ _ ?_⟩)) | refine ⟨.one (.one (.bool false)), by simp [go_sem, hlt, hs, encG, encS], hK _ _ ?_⟩ | refine ⟨by first | omega | (simp [z_f, z_g, hlt, hs, encG, encS]; first | done | omega), ?_⟩ | refine ⟨hK _ ?_, fun h => ?_⟩ | refine ⟨?_, ?_⟩); all_goals ((try apply hK); clear hK K))
          refine z_j (n - 1) _ (by omega) ⟨k + 1, by omega, ?_, rfl⟩ ?_
          ·rw [range_succ_all, hall, ho]; rfl
          ·simp [go_sem, encG]
     ·have hke : k = g.roles.length := by omega
      rw [hke] at hall
      have hv : named g = true := by simp [named, hw, h1, h6, okRoles, hall]
      repeat' first | refine St.go ?_ | ((with_reducible refine z_Y (t := ?_) ?hc (fun h => ?_) (fun h => ?_)); (case hc => rfl); all_goals (try simp [go_sem, hlt] at h); all_goals try omega) | (refine Ru.go ?_; intro K hK; simp [go_sem, hlt]; (try simp (disch := omega) only [z_h, z_i, eq_self, true_and]); (first | apply hK | refine ⟨by first | omega | (simp [z_f, z_g, hlt]; first | done | omega), ?_⟩ | refine ⟨hK _ ?_, fun h => ?_⟩ | refine ⟨?_, ?_⟩); all_goals ((try apply hK); clear hK K))
      simp [go_sem, hv]
    ·have h6' : (6 : Int) < (g.roles.length : Int) := by omega
     have hv : named g = false := by simp [named, h6]
     repeat' first | refine St.go ?_ | ((with_reducible refine z_Y (t := ?_) ?hc (fun h => ?_) (fun h => ?_)); (case hc => rfl); all_goals (try simp [go_sem, encG, h1', h6'] at h); all_goals try omega) | (refine Ru.go ?_; intro K hK; simp [go_sem, encG, h1', h6']; (try simp (disch := omega) only [z_h, z_i, eq_self, true_and]); (first | apply hK | ((try refine .inl ?_); refine ⟨_, by (try intro hc); (repeat' first | exact f105s | exact hc | refine And.intro ?_ ?_ | simp [go_sem, encG, h1', h6']); first | done | omega, ?_⟩; first | apply hK | (refine ⟨by simp [go_sem, encG, h1', h6'], ?_⟩; first | apply hK | refine ⟨by simp [go_sem, encG, h1', h6'], hK _ _ ?_⟩)) | refine ⟨.one (.one (.bool false)), by simp [go_sem, encG, h1', h6'], hK _ _ ?_⟩ | refine ⟨by first | omega | (simp [z_f, z_g, encG, h1', h6']; first | done | omega), ?_⟩ | refine ⟨hK _ ?_, fun h => ?_⟩ | refine ⟨?_, ?_⟩); all_goals ((try apply hK); clear hK K))
     simp [go_sem, hv]
   ·have h1' : (g.roles.length : Int) < 1 := by omega
    have hv : named g = false := by simp [named, h1]
    repeat' first | refine St.go ?_ | ((with_reducible refine z_Y (t := ?_) ?hc (fun h => ?_) (fun h => ?_)); (case hc => rfl); all_goals (try simp [go_sem, encG, h1'] at h); all_goals try omega) | (refine Ru.go ?_; intro K hK; simp [go_sem, encG, h1']; (try simp (disch := omega) only [z_h, z_i, eq_self, true_and]); (first | apply hK | ((try refine .inl ?_); refine ⟨_, by (try intro hc); (repeat' first | exact f105s | exact hc | refine And.intro ?_ ?_ | simp [go_sem, encG, h1']); first | done | omega, ?_⟩; first | apply hK | (refine ⟨by simp [go_sem, encG, h1'], ?_⟩; first | apply hK | refine ⟨by simp [go_sem, encG, h1'], hK _ _ ?_⟩)) | refine ⟨.one (.one (.bool false)), by simp [go_sem, encG, h1'], hK _ _ ?_⟩ | refine ⟨by first | omega | (simp [z_f, z_g, encG, h1']; first | done | omega), ?_⟩ | refine ⟨hK _ ?_, fun h => ?_⟩ | refine ⟨?_, ?_⟩); all_goals ((try apply hK); clear hK K))
    simp [go_sem, hv]
end Go.Av
