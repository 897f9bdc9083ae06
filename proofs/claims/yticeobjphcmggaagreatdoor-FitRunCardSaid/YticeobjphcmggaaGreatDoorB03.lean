/- Part of a proof. -/
import Derived.Test.YticeobjphcmggaaGreatDoorB02
set_option linter.unusedVariables false
set_option linter.unusedSimpArgs false
set_option maxHeartbeats 64000000
set_option maxRecDepth 8000
namespace Go.Av
open Go Go.RowKit Go.Proofs
theorem range_succ_all (p : Nat -> Bool) (k : Nat) : (List.range (k + 1)).all p = ((List.range k).all p && p k) := by simp [List.range_succ]
theorem range_all_no {p : Nat -> Bool} {n k : Nat} (h : k < n) (hb : p k = false) : (List.range n).all p = false := by
 rw [List.all_eq_false]
 exact ⟨k, by simp [h], by simp [hb]⟩
theorem frz_encF (x : Fld) : frzL (encF x) = encF x := by simp [encF, frzL, DV.frz]
def okFieldAt (fs : List Fld) (k : Nat) : Bool := match fs[k]? with
 | some f => isWord f.name && goodSort f && !(fs.take k).any (fun x => x.name == f.name)
 | none => true
def okFields (fs : List Fld) : Bool := (List.range fs.length).all (okFieldAt fs)
def okDeclAt (l : List Dcl) (i : Nat) : Bool := match l[i]? with
 | some d => isPath d.name && decide (d.fields.length <= 4) && decide (d.first = ((allF (l.take i)).length : Int)) && !(l.take i).any (fun x => x.name == d.name) && okFields d.fields && okGuard (allF l) d
 | none => true
def validD (l : List Dcl) : Bool := decide (l.length <= 40) && decide ((allF l).length <= 24) && (List.range l.length).all (okDeclAt l)
theorem okFieldAt_get {fs : List Fld} {k : Nat} (h : k < fs.length) : okFieldAt fs k = (isWord fs[k].name && goodSort fs[k] && !(fs.take k).any (fun x => x.name == fs[k].name)) := by
 unfold okFieldAt
 rw [List.getElem?_eq_getElem h]
theorem okDeclAt_get {l : List Dcl} {i : Nat} (h : i < l.length) : okDeclAt l i = (isPath l[i].name && decide (l[i].fields.length <= 4) && decide (l[i].first = ((allF (l.take i)).length : Int)) && !(l.take i).any (fun x => x.name == l[i].name) && okFields l[i].fields && okGuard (allF l) l[i]) := by
 unfold okDeclAt
 rw [List.getElem?_eq_getElem h]
theorem f112 (l : List Dcl) (hl : l.length <= 1000) (hf : ∀ d ∈ l, d.fields.length <= 100000) : Impl Tryz.prog 112 [.one (.sl (l.map encD))] (.one (.one (.bool (validD l)))) := by
 refine impl_w Tryz.func112 z112 Tryz.ntmps112 (by simp) ?_
 simp only [slotsOf]
 conv => arg 2; reduce
 by_cases h40 : l.length <= 40
 ·have h40' : ¬ (40 : Int) < (l.length : Int) := by omega
  have f113s := f113 l hl hf
  obtain ⟨all, hA⟩ : ∃ all, all = allF l := ⟨_, rfl⟩
  rw [<- hA] at f113s
  by_cases h24 : all.length <= 24
  ·have h24' : ¬ (24 : Int) < (all.length : Int) := by omega
   repeat' first | refine St.go ?_ | ((with_reducible refine cn ?_ ?_) <;> intro h <;> (try simp [h40', h24'] at h) <;> try omega) | (refine Ru.go ?_; intro K hK; simp [go_sem, h40', h24']; (try simp (disch := omega) only [wx, z_i]); (first | apply hK | ((try refine .inl ?_); refine ⟨_, by (try intro hc); (repeat' first | exact f113s | exact hc | refine And.intro ?_ ?_ | simp [go_sem, h40', h24']); first | done | omega, ?_⟩; first | apply hK | (refine ⟨by simp [go_sem, h40', h24'], ?_⟩; apply hK)) | refine ⟨.one (.one (.bool false)), by simp [go_sem, h40', h24'], hK _ _ ?_⟩ | refine ⟨ob, ?_⟩ | refine ⟨hK _ ?_, fun h => ?_⟩ | refine ⟨?_, ?_⟩); all_goals ((try apply hK); clear hK K))
   refine z_k (fun n e => ∃ i : Nat, i + n = l.length /\ (List.range i).all (okDeclAt l) = true /\ e = [(19, .sv (.one (.int .i64 i))), (18, .sv (.one (.int .i64 l.length))), (17, .sv (.one (.sl (l.map encD)))), (4, .sv (.one (.int .i64 ((allF (l.take i)).length : Nat)))), (3, .sv (.one (.ow 4 (all.map encF)))), (0, .sv (.one (.sl (l.map encD))))]) l.length _ ⟨0, by simp, by simp, rfl⟩ (by simp [go_sem, allF]) ?_
   rintro n e ⟨i, hi, hall, rfl⟩
   by_cases hlt : i < l.length
   ·have hfi := hf l[i] (List.getElem_mem hlt)
    have hok := okDeclAt_get hlt
    have hbad : okDeclAt l i = false -> validD l = false := fun h => by simp [validD, range_all_no hlt h]
    have hat := allF_take_le (k := i) hf
    have hsc := congrArg List.length (allF_succ hlt)
    rw [List.length_append] at hsc
    obtain ⟨d, hd⟩ : ∃ d, l[i] = d := ⟨_, rfl⟩
    rw [hd] at hfi hok hsc
    have f131s := f131 d.name
    have hti : (l.take i).length <= 1000000 := Nat.le_trans (List.length_take_le _ _) (by omega)
    have f132s := f132 (l.take i) 133 [.rf (encD d)] (fun x => x.name == d.name) hti (fun x _ => f133 x d)
    rw [List.map_take] at f132s
    cases hp : isPath d.name with
    | false =>
      have hv := hbad (by rw [hok, hp]; rfl)
      rw [hp] at f131s
      repeat' first | refine St.go ?_ | ((with_reducible refine cn ?_ ?_) <;> intro h <;> (try simp [hlt, hd] at h) <;> try omega) | (refine Ru.go ?_; intro K hK; simp [go_sem, hlt, hd, encD]; (try simp (disch := omega) only [wx, z_i]); (first | apply hK | ((try refine .inl ?_); refine ⟨_, by (try intro hc); (repeat' first | exact f131s | exact hc | refine And.intro ?_ ?_ | simp [go_sem, hlt, hd, encD]); first | done | omega, ?_⟩; first | apply hK | (refine ⟨by simp [go_sem, hlt, hd, encD], ?_⟩; apply hK)) | refine ⟨.one (.one (.bool false)), by simp [go_sem, hlt, hd, encD], hK _ _ ?_⟩ | refine ⟨ob, ?_⟩ | refine ⟨hK _ ?_, fun h => ?_⟩ | refine ⟨?_, ?_⟩); all_goals ((try apply hK); clear hK K))
      simp [go_sem, hv]
    | true =>
      rw [hp] at f131s
      by_cases h4 : d.fields.length <= 4
      ·have h4' : ¬ (4 : Int) < (d.fields.length : Int) := by omega
       by_cases hfst : d.first = ((allF (l.take i)).length : Int)
       ·have hfst' : (d.first != ((allF (l.take i)).length : Int)) = false := by simp [hfst]
        cases hany : (l.take i).any (fun x => x.name == d.name) with
        | true =>
          have hv := hbad (by rw [hok, hany]; simp)
          rw [hany] at f132s
          have q_ := aN hlt <| aN hd <| aN h4' <| hfst'
          repeat' first | refine St.go ?_ | ((with_reducible refine cn ?_ ?_) <;> intro h <;> (try simp [q_] at h) <;> try omega) | (refine Ru.go ?_; intro K hK; simp [go_sem, encD, q_]; (try simp (disch := omega) only [wx, z_i]); (first | apply hK | ((try refine .inl ?_); refine ⟨_, by (try intro hc); (repeat' first | exact f131s | exact f132s | exact hc | refine And.intro ?_ ?_ | simp [go_sem, encD, q_]); first | done | omega, ?_⟩; first | apply hK | (refine ⟨by simp [go_sem, encD, q_], ?_⟩; apply hK)) | refine ⟨.one (.one (.bool false)), by simp [go_sem, encD, q_], hK _ _ ?_⟩ | refine ⟨ob, ?_⟩ | refine ⟨hK _ ?_, fun h => ?_⟩ | refine ⟨?_, ?_⟩); all_goals ((try apply hK); clear hK K))
          all_goals try clear q_
          simp [go_sem, hv]
        | false =>
          rw [hany] at f132s
          have q_ := aN hlt <| aN hd <| aN h4' <| hfst'
          repeat' first | refine St.go ?_ | ((with_reducible refine cn ?_ ?_) <;> intro h <;> (try simp [q_] at h) <;> try omega) | (refine Ru.go ?_; intro K hK; simp [go_sem, encD, q_]; (try simp (disch := omega) only [wx, z_i]); (first | apply hK | ((try refine .inl ?_); refine ⟨_, by (try intro hc); (repeat' first | exact f131s | exact f132s | exact hc | refine And.intro ?_ ?_ | simp [go_sem, encD, q_]); first | done | omega, ?_⟩; first | apply hK | (refine ⟨by simp [go_sem, encD, q_], ?_⟩; apply hK)) | refine ⟨.one (.one (.bool false)), by simp [go_sem, encD, q_], hK _ _ ?_⟩ | refine ⟨ob, ?_⟩ | refine ⟨hK _ ?_, fun h => ?_⟩ | refine ⟨?_, ?_⟩); all_goals ((try apply hK); clear hK K))
          all_goals try clear q_
          refine z_k (fun q e => ∃ k : Nat, k + q = d.fields.length /\ (List.range k).all (okFieldAt d.fields) = true /\ e = [(55, .sv (.one (.int .i64 k))), (54, .sv (.one (.int .i64 d.fields.length))), (53, .sv (.one (.sl (d.fields.map encF)))), (6, .sv (.one (.bx (encD d)))), (19, .sv (.one (.int .i64 i))), (18, .sv (.one (.int .i64 l.length))), (17, .sv (.one (.sl (l.map encD)))), (4, .sv (.one (.int .i64 ((allF (l.take (i + 1))).length : Nat)))), (3, .sv (.one (.ow 4 (all.map encF)))), (0, .sv (.one (.sl (l.map encD))))]) d.fields.length _ ⟨0, by simp, by simp, rfl⟩ (by simp [go_sem, encD, hsc]) ?_
          rintro q e ⟨k, hk, hfa, rfl⟩
          by_cases hkl : k < d.fields.length
          ·have hfo := okFieldAt_get hkl
           have hfbad : okFieldAt d.fields k = false -> validD l = false := fun h => hbad (by rw [hok]; simp [okFields, range_all_no hkl h])
           obtain ⟨f, hfe⟩ : ∃ f, d.fields[k] = f := ⟨_, rfl⟩
           rw [hfe] at hfo
           have f100s := f100 f.name
           have f134s := f134 f.kind f.lo f.hi f.name
           have hge : goodSort ⟨f.name, f.kind, f.lo, f.hi⟩ = goodSort f := rfl
           rw [hge] at f134s
           have htk : (d.fields.take k).length <= 1000000 := Nat.le_trans (List.length_take_le _ _) (by omega)
           have f135s := f135 (d.fields.take k) 136 [.rf (encF f)] (fun x => x.name == f.name) htk (fun x _ => f136 x f)
           rw [List.map_take] at f135s
           cases hw : isWord f.name with
           | false =>
             have hv := hfbad (by rw [hfo, hw]; rfl)
             rw [hw] at f100s
             repeat' first | refine St.go ?_ | ((with_reducible refine cn ?_ ?_) <;> intro h <;> (try simp [hkl, hfe] at h) <;> try omega) | (refine Ru.go ?_; intro K hK; simp [go_sem, hkl, hfe, encD, encF]; (try simp (disch := omega) only [wx, z_i]); (first | apply hK | ((try refine .inl ?_); refine ⟨_, by (try intro hc); (repeat' first | exact f100s | exact hc | refine And.intro ?_ ?_ | simp [go_sem, hkl, hfe, encD, encF]); first | done | omega, ?_⟩; first | apply hK | (refine ⟨by simp [go_sem, hkl, hfe, encD, encF], ?_⟩; apply hK)) | refine ⟨.one (.one (.bool false)), by simp [go_sem, hkl, hfe, encD, encF], hK _ _ ?_⟩ | refine ⟨ob, ?_⟩ | refine ⟨hK _ ?_, fun h => ?_⟩ | refine ⟨?_, ?_⟩); all_goals ((try apply hK); clear hK K))
             simp [go_sem, hv]
           | true =>
             rw [hw] at f100s
             cases hgs : goodSort f with
             | false =>
               have hv := hfbad (by rw [hfo, hgs]; simp)
               rw [hgs] at f134s
               repeat' first | refine St.go ?_ | ((with_reducible refine cn ?_ ?_) <;> intro h <;> (try simp [hkl, hfe] at h) <;> try omega) | (refine Ru.go ?_; intro K hK; simp [go_sem, hkl, hfe, encD, encF]; (try simp (disch := omega) only [wx, z_i]); (first | apply hK | ((try refine .inl ?_); refine ⟨_, by (try intro hc); (repeat' first | exact f100s | exact f134s | exact hc | refine And.intro ?_ ?_ | simp [go_sem, hkl, hfe, encD, encF]); first | done | omega, ?_⟩; first | apply hK | (refine ⟨by simp [go_sem, hkl, hfe, encD, encF], ?_⟩; apply hK)) | refine ⟨.one (.one (.bool false)), by simp [go_sem, hkl, hfe, encD, encF], hK _ _ ?_⟩ | refine ⟨ob, ?_⟩ | refine ⟨hK _ ?_, fun h => ?_⟩ | refine ⟨?_, ?_⟩); all_goals ((try apply hK); clear hK K))
               simp [go_sem, hv]
             | true =>
               rw [hgs] at f134s
               cases hfy : (d.fields.take k).any (fun x => x.name == f.name) with
               | true =>
                 have hv := hfbad (by rw [hfo, hfy]; simp)
                 rw [hfy] at f135s
                 repeat' first | refine St.go ?_ | ((with_reducible refine cn ?_ ?_) <;> intro h <;> (try simp [hkl, hfe] at h) <;> try omega) | (refine Ru.go ?_; intro K hK; simp [go_sem, hkl, hfe, encD, encF]; (try simp (disch := omega) only [wx, z_i]); (first | apply hK | ((try refine .inl ?_); refine ⟨_, by (try intro hc); (repeat' first | exact f100s | exact f134s | exact f135s | exact hc | refine And.intro ?_ ?_ | simp [go_sem, hkl, hfe, encD, encF]); first | done | omega, ?_⟩; first | apply hK | (refine ⟨by simp [go_sem, hkl, hfe, encD, encF], ?_⟩; apply hK)) | refine ⟨.one (.one (.bool false)), by simp [go_sem, hkl, hfe, encD, encF], hK _ _ ?_⟩ | refine ⟨ob, ?_⟩ | refine ⟨hK _ ?_, fun h => ?_⟩ | refine ⟨?_, ?_⟩); all_goals ((try apply hK); clear hK K))
                 simp [go_sem, hv]
               | false =>
                 have hfo' : okFieldAt d.fields k = true := by rw [hfo, hw, hgs, hfy]; rfl
                 rw [hfy] at f135s
                 repeat' first | refine St.go ?_ | ((with_reducible refine cn ?_ ?_) <;> intro h <;> (try simp [hkl, hfe] at h) <;> try omega) | (refine Ru.go ?_; intro K hK; simp [go_sem, hkl, hfe, encD, encF]; (try simp (disch := omega) only [wx, z_i]); (first | apply hK | ((try refine .inl ?_); refine ⟨_, by (try intro hc); (repeat' first | exact f100s | exact f134s | exact f135s | exact hc | refine And.intro ?_ ?_ | simp [go_sem, hkl, hfe, encD, encF]); first | done | omega, ?_⟩; first | apply hK | (refine ⟨by simp [go_sem, hkl, hfe, encD, encF], ?_⟩; apply hK)) | refine ⟨.one (.one (.bool false)), by simp [go_sem, hkl, hfe, encD, encF], hK _ _ ?_⟩ | refine ⟨ob, ?_⟩ | refine ⟨hK _ ?_, fun h => ?_⟩ | refine ⟨?_, ?_⟩); all_goals ((try apply hK); clear hK K))
                 refine z_j (q - 1) _ (by omega) ⟨k + 1, by omega, ?_, rfl⟩ ?_
                 ·rw [range_succ_all, hfa, hfo']; rfl
                 ·simp [go_sem, encD]
          ·have hke : k = d.fields.length := by omega
           rw [hke] at hfa
           have hfs : okFields d.fields = true := hfa
           have f137s := f137 all d (by omega)
           cases hgd : okGuard all d with
           | false =>
             have hv := hbad (by rw [hok, <- hA, hgd]; simp)
             rw [hgd] at f137s
             repeat' first | refine St.go ?_ | ((with_reducible refine cn ?_ ?_) <;> intro h <;> (try simp [hkl] at h) <;> try omega) | (refine Ru.go ?_; intro K hK; simp [go_sem, hkl, encD, frz_encF]; (try simp (disch := omega) only [wx, z_i]); (first | apply hK | ((try refine .inl ?_); refine ⟨_, by (try intro hc); (repeat' first | exact f137s | exact hc | refine And.intro ?_ ?_ | simp [go_sem, hkl, encD, frz_encF]); first | done | omega, ?_⟩; first | apply hK | (refine ⟨by simp [go_sem, hkl, encD, frz_encF], ?_⟩; apply hK)) | refine ⟨.one (.one (.bool false)), by simp [go_sem, hkl, encD, frz_encF], hK _ _ ?_⟩ | refine ⟨ob, ?_⟩ | refine ⟨hK _ ?_, fun h => ?_⟩ | refine ⟨?_, ?_⟩); all_goals ((try apply hK); clear hK K))
             simp [go_sem, hv]
           | true =>
             have hoi : okDeclAt l i = true := by rw [hok, <- hA, hgd, hp, hany, hfs]; simp [h4, hfst]
             rw [hgd] at f137s
             repeat' first | refine St.go ?_ | ((with_reducible refine cn ?_ ?_) <;> intro h <;> (try simp [hkl] at h) <;> try omega) | (refine Ru.go ?_; intro K hK; simp [go_sem, hkl, encD, frz_encF]; (try simp (disch := omega) only [wx, z_i]); (first | apply hK | ((try refine .inl ?_); refine ⟨_, by (try intro hc); (repeat' first | exact f137s | exact hc | refine And.intro ?_ ?_ | simp [go_sem, hkl, encD, frz_encF]); first | done | omega, ?_⟩; first | apply hK | (refine ⟨by simp [go_sem, hkl, encD, frz_encF], ?_⟩; apply hK)) | refine ⟨.one (.one (.bool false)), by simp [go_sem, hkl, encD, frz_encF], hK _ _ ?_⟩ | refine ⟨ob, ?_⟩ | refine ⟨hK _ ?_, fun h => ?_⟩ | refine ⟨?_, ?_⟩); all_goals ((try apply hK); clear hK K))
             refine z_j (n - 1) _ (by omega) ⟨i + 1, by omega, ?_, rfl⟩ ?_
             ·rw [range_succ_all, hall, hoi]; rfl
             ·simp [go_sem]
       ·have hv := hbad (by rw [hok]; simp [hfst])
        have q_ := aN hlt <| aN hd <| aN h4' <| hfst
        repeat' first | refine St.go ?_ | ((with_reducible refine cn ?_ ?_) <;> intro h <;> (try simp [q_] at h) <;> try omega) | (refine Ru.go ?_; intro K hK; simp [go_sem, encD, q_]; (try simp (disch := omega) only [wx, z_i]); (first | apply hK | ((try refine .inl ?_); refine ⟨_, by (try intro hc); (repeat' first | exact f131s | exact hc | refine And.intro ?_ ?_ | simp [go_sem, encD, q_]); first | done | omega, ?_⟩; first | apply hK | (refine ⟨by simp [go_sem, encD, q_], ?_⟩; apply hK)) | refine ⟨.one (.one (.bool false)), by simp [go_sem, encD, q_], hK _ _ ?_⟩ | refine ⟨ob, ?_⟩ | refine ⟨hK _ ?_, fun h => ?_⟩ | refine ⟨?_, ?_⟩); all_goals ((try apply hK); clear hK K))
        all_goals try clear q_
        simp [go_sem, hv]
      ·have h4' : (4 : Int) < (d.fields.length : Int) := by omega
       have hv := hbad (by rw [hok]; simp [h4])
       have q_ := aN hlt <| aN hd <| h4'
       repeat' first | refine St.go ?_ | ((with_reducible refine cn ?_ ?_) <;> intro h <;> (try simp [q_] at h) <;> try omega) | (refine Ru.go ?_; intro K hK; simp [go_sem, encD, q_]; (try simp (disch := omega) only [wx, z_i]); (first | apply hK | ((try refine .inl ?_); refine ⟨_, by (try intro hc); (repeat' first | exact f131s | exact hc | refine And.intro ?_ ?_ | simp [go_sem, encD, q_]); first | done | omega, ?_⟩; first | apply hK | (refine ⟨by simp [go_sem, encD, q_], ?_⟩; apply hK)) | refine ⟨.one (.one (.bool false)), by simp [go_sem, encD, q_], hK _ _ ?_⟩ | refine ⟨ob, ?_⟩ | refine ⟨hK _ ?_, fun h => ?_⟩ | refine ⟨?_, ?_⟩); all_goals ((try apply hK); clear hK K))
       all_goals try clear q_
       simp [go_sem, hv]
   ·have hie : i = l.length := by omega
    rw [hie] at hall
    repeat' first | refine St.go ?_ | ((with_reducible refine cn ?_ ?_) <;> intro h <;> (try simp [hlt] at h) <;> try omega) | (refine Ru.go ?_; intro K hK; simp [go_sem, hlt]; (try simp (disch := omega) only [wx, z_i]); (first | apply hK | refine ⟨ob, ?_⟩ | refine ⟨hK _ ?_, fun h => ?_⟩ | refine ⟨?_, ?_⟩); all_goals ((try apply hK); clear hK K))
    have hv : validD l = true := by simp only [validD, h40, decide_true, Bool.true_and, <- hA, h24, hall]
    simp [go_sem, hv]
  ·have h24' : (24 : Int) < (all.length : Int) := by omega
   repeat' first | refine St.go ?_ | ((with_reducible refine cn ?_ ?_) <;> intro h <;> (try simp [h40', h24'] at h) <;> try omega) | (refine Ru.go ?_; intro K hK; simp [go_sem, h40', h24']; (try simp (disch := omega) only [wx, z_i]); (first | apply hK | ((try refine .inl ?_); refine ⟨_, by (try intro hc); (repeat' first | exact f113s | exact hc | refine And.intro ?_ ?_ | simp [go_sem, h40', h24']); first | done | omega, ?_⟩; first | apply hK | (refine ⟨by simp [go_sem, h40', h24'], ?_⟩; apply hK)) | refine ⟨.one (.one (.bool false)), by simp [go_sem, h40', h24'], hK _ _ ?_⟩ | refine ⟨ob, ?_⟩ | refine ⟨hK _ ?_, fun h => ?_⟩ | refine ⟨?_, ?_⟩); all_goals ((try apply hK); clear hK K))
   have hv : validD l = false := by simp [validD, <- hA, h24]
   simp [go_sem, hv]
 ·have h40' : (40 : Int) < (l.length : Int) := by omega
  repeat' first | refine St.go ?_ | ((with_reducible refine cn ?_ ?_) <;> intro h <;> (try simp [h40'] at h) <;> try omega) | (refine Ru.go ?_; intro K hK; simp [go_sem, h40']; (try simp (disch := omega) only [wx, z_i]); (first | apply hK | refine ⟨ob, ?_⟩ | refine ⟨hK _ ?_, fun h => ?_⟩ | refine ⟨?_, ?_⟩); all_goals ((try apply hK); clear hK K))
  have hv : validD l = false := by simp [validD, h40]
  simp [go_sem, hv]
theorem any_no {α : Type} {p : α -> Bool} {l : List α} {k : Nat} (h : k < l.length) (hb : p l[k] = true) {m : Nat} (hm : k < m) : (l.take m).any p = true := by
 rw [List.any_eq_true]
 exact ⟨l[k], List.mem_iff_getElem.2 ⟨k, by rw [List.length_take]; omega, by simp⟩, hb⟩
theorem f109 (l : List Dcl) (hl : l.length <= 1000) (hf : ∀ d ∈ l, d.fields.length <= 100000) (hdl : ∀ d ∈ l, d.diffs.length <= 1000000 /\ d.equals.length <= 1000000 /\ d.name.size <= 1000000000000000) : Impl Tryz.prog 109 [.one (.sl (l.map encD))] (.one (.one (.bool (validD l)))) := by
 refine impl_w Tryz.func109 z109 Tryz.ntmps109 (by simp) ?_
 simp only [slotsOf]
 conv => arg 2; reduce
 by_cases h40 : l.length <= 40
 ·have h40' : ¬ (40 : Int) < (l.length : Int) := by omega
  have f93s := f93 l hl hf
  obtain ⟨all, hA⟩ : ∃ all, all = allF l := ⟨_, rfl⟩
  rw [<- hA] at f93s
  by_cases h24 : all.length <= 24
  ·have h24' : ¬ (24 : Int) < (all.length : Int) := by omega
   repeat' first | refine St.go ?_ | ((with_reducible refine cn ?_ ?_) <;> intro h <;> (try simp [h40', h24'] at h) <;> try omega) | (refine Ru.go ?_; intro K hK; simp [go_sem, h40', h24']; (try simp (disch := omega) only [wx, z_i]); (first | apply hK | ((try refine .inl ?_); refine ⟨_, by (try intro hc); (repeat' first | exact f93s | exact hc | refine And.intro ?_ ?_ | simp [go_sem, h40', h24']); first | done | omega, ?_⟩; first | apply hK | (refine ⟨by simp [go_sem, h40', h24'], ?_⟩; first | apply hK | refine ⟨by simp [go_sem, h40', h24'], hK _ _ ?_⟩)) | refine ⟨.one (.one (.bool false)), by simp [go_sem, h40', h24'], hK _ _ ?_⟩ | refine ⟨ob, ?_⟩ | refine ⟨hK _ ?_, fun h => ?_⟩ | refine ⟨?_, ?_⟩); all_goals ((try apply hK); clear hK K))
   refine z_k (fun n e => ∃ i : Nat, i + n = l.length /\ (List.range i).all (okDeclAt l) = true /\ e = [(4, .sv (.one (.int .i64 i))), (3, .sv (.one (.int .i64 ((allF (l.take i)).length : Nat)))), (0, .sv (.one (.sl (l.map encD))))]) l.length _ ⟨0, by simp, by simp, rfl⟩ (by simp [go_sem, allF]) ?_
   rintro n e ⟨i, hi, hall, rfl⟩
   by_cases hlt : i < l.length
   ·have hfi := hf l[i] (List.getElem_mem hlt)
    obtain ⟨hd1, hd2, hd3⟩ := hdl l[i] (List.getElem_mem hlt)
    have hok := okDeclAt_get hlt
    have hbad : okDeclAt l i = false -> validD l = false := fun h => by simp [validD, range_all_no hlt h]
    have hat := allF_take_le (k := i) hf
    have hsc := congrArg List.length (allF_succ hlt)
    rw [List.length_append] at hsc
    obtain ⟨d, hd⟩ : ∃ d, l[i] = d := ⟨_, rfl⟩
    rw [hd] at hfi hok hsc hd1 hd2 hd3
    repeat' first | refine St.go ?_ | ((with_reducible refine cn ?_ ?_) <;> intro h <;> (try simp [hlt, hd] at h) <;> try omega) | (refine Ru.go ?_; intro K hK; simp [go_sem, hlt, hd, encD]; (try simp (disch := omega) only [wx, z_i]); (first | apply hK | refine ⟨ob, ?_⟩ | refine ⟨hK _ ?_, fun h => ?_⟩ | refine ⟨?_, ?_⟩); all_goals ((try apply hK); clear hK K))
    refine z_k (fun q e => ∃ k : Nat, k + q = i /\ (l.take k).any (fun x => x.name == d.name) = false /\ e = [(6, .sv (.one (.int .i64 k))), (5, .sv (.one (.bx (encD d)))), (4, .sv (.one (.int .i64 i))), (3, .sv (.one (.int .i64 ((allF (l.take i)).length : Nat)))), (0, .sv (.one (.sl (l.map encD))))]) i _ ⟨0, by simp, by simp, rfl⟩ (by simp [go_sem, encD]) ?_
    rintro q e ⟨k, hk, hany, rfl⟩
    by_cases hki : k < i
    ·have hkl : k < l.length := by omega
     cases hx : (l[k].name == d.name) with
     | true =>
       have hv := hbad (by rw [hok, any_no (p := fun x => x.name == d.name) hkl hx hki]; simp)
       repeat' first | refine St.go ?_ | ((with_reducible refine cn ?_ ?_) <;> intro h <;> (try simp [hki, hkl, hx] at h) <;> try omega) | (refine Ru.go ?_; intro K hK; simp [go_sem, hki, hkl, hx, encD]; (try simp (disch := omega) only [wx, z_i]); (first | apply hK | refine ⟨ob, ?_⟩ | refine ⟨hK _ ?_, fun h => ?_⟩ | refine ⟨?_, ?_⟩); all_goals ((try apply hK); clear hK K))
       simp [go_sem, hv]
     | false =>
       repeat' first | refine St.go ?_ | ((with_reducible refine cn ?_ ?_) <;> intro h <;> (try simp [hki, hkl, hx] at h) <;> try omega) | (refine Ru.go ?_; intro K hK; simp [go_sem, hki, hkl, hx, encD]; (try simp (disch := omega) only [wx, z_i]); (first | apply hK | refine ⟨ob, ?_⟩ | refine ⟨hK _ ?_, fun h => ?_⟩ | refine ⟨?_, ?_⟩); all_goals ((try apply hK); clear hK K))
       refine z_j (q - 1) _ (by omega) ⟨k + 1, by omega, ?_, rfl⟩ ?_
       ·rw [any_succ hkl, hany, hx]; rfl
       ·simp [go_sem, encD]
    ·have hke : k = i := by omega
     subst hke
     repeat' first | refine St.go ?_ | ((with_reducible refine cn ?_ ?_) <;> intro h <;> (try simp [hki] at h) <;> try omega) | (refine Ru.go ?_; intro K hK; simp [go_sem, hki]; (try simp (disch := omega) only [wx, z_i]); (first | apply hK | refine ⟨ob, ?_⟩ | refine ⟨hK _ ?_, fun h => ?_⟩ | refine ⟨?_, ?_⟩); all_goals ((try apply hK); clear hK K))
     refine z_k (fun q e => ∃ k' : Nat, k' + q = d.fields.length /\ (List.range k').all (okFieldAt d.fields) = true /\ e = [(7, .sv (.one (.int .i64 k'))), (5, .sv (.one (.bx (encD d)))), (4, .sv (.one (.int .i64 k))), (3, .sv (.one (.int .i64 ((allF (l.take k)).length : Nat)))), (0, .sv (.one (.sl (l.map encD))))]) d.fields.length _ ⟨0, by simp, by simp, rfl⟩ (by simp [go_sem, encD]) ?_
     rintro q2 e ⟨m, hm, hfa, rfl⟩
     by_cases hml : m < d.fields.length
     ·have hfo := okFieldAt_get hml
      have hfbad : okFieldAt d.fields m = false -> validD l = false := fun h => hbad (by rw [hok]; simp [okFields, range_all_no hml h])
      obtain ⟨f, hfe⟩ : ∃ f, d.fields[m] = f := ⟨_, rfl⟩
      rw [hfe] at hfo
      have f107s := f107 f.name
      have f128s := f128 f.kind f.lo f.hi f.name
      have hge : goodSort ⟨f.name, f.kind, f.lo, f.hi⟩ = goodSort f := rfl
      rw [hge] at f128s
      cases hgs : goodSort f with
      | false =>
        have hv := hfbad (by rw [hfo, hgs]; simp)
        rw [hgs] at f128s
        repeat' first | refine St.go ?_ | ((with_reducible refine cn ?_ ?_) <;> intro h <;> (try simp [hml, hfe] at h) <;> try omega) | (refine Ru.go ?_; intro K hK; simp [go_sem, hml, hfe, encD, encF]; (try simp (disch := omega) only [wx, z_i]); (first | apply hK | ((try refine .inl ?_); refine ⟨_, by (try intro hc); (repeat' first | exact f128s | exact hc | refine And.intro ?_ ?_ | simp [go_sem, hml, hfe, encD, encF]); first | done | omega, ?_⟩; first | apply hK | (refine ⟨by simp [go_sem, hml, hfe, encD, encF], ?_⟩; first | apply hK | refine ⟨by simp [go_sem, hml, hfe, encD, encF], hK _ _ ?_⟩)) | refine ⟨.one (.one (.bool false)), by simp [go_sem, hml, hfe, encD, encF], hK _ _ ?_⟩ | refine ⟨ob, ?_⟩ | refine ⟨hK _ ?_, fun h => ?_⟩ | refine ⟨?_, ?_⟩); all_goals ((try apply hK); clear hK K))
        simp [go_sem, hv]
      | true =>
        rw [hgs] at f128s
        cases hw : isWord f.name with
        | false =>
          have hv := hfbad (by rw [hfo, hw]; rfl)
          rw [hw] at f107s
          repeat' first | refine St.go ?_ | ((with_reducible refine cn ?_ ?_) <;> intro h <;> (try simp [hml, hfe] at h) <;> try omega) | (refine Ru.go ?_; intro K hK; simp [go_sem, hml, hfe, encD, encF]; (try simp (disch := omega) only [wx, z_i]); (first | apply hK | ((try refine .inl ?_); refine ⟨_, by (try intro hc); (repeat' first | exact f107s | exact f128s | exact hc | refine And.intro ?_ ?_ | simp [go_sem, hml, hfe, encD, encF]); first | done | omega, ?_⟩; first | apply hK | (refine ⟨by simp [go_sem, hml, hfe, encD, encF], ?_⟩; first | apply hK | refine ⟨by simp [go_sem, hml, hfe, encD, encF], hK _ _ ?_⟩)) | refine ⟨.one (.one (.bool false)), by simp [go_sem, hml, hfe, encD, encF], hK _ _ ?_⟩ | refine ⟨ob, ?_⟩ | refine ⟨hK _ ?_, fun h => ?_⟩ | refine ⟨?_, ?_⟩); all_goals ((try apply hK); clear hK K))
          simp [go_sem, hv]
        | true =>
          rw [hw] at f107s
          repeat' first | refine St.go ?_ | ((with_reducible refine cn ?_ ?_) <;> intro h <;> (try simp [hml, hfe] at h) <;> try omega) | (refine Ru.go ?_; intro K hK; simp [go_sem, hml, hfe, encD, encF]; (try simp (disch := omega) only [wx, z_i]); (first | apply hK | ((try refine .inl ?_); refine ⟨_, by (try intro hc); (repeat' first | exact f107s | exact f128s | exact hc | refine And.intro ?_ ?_ | simp [go_sem, hml, hfe, encD, encF]); first | done | omega, ?_⟩; first | apply hK | (refine ⟨by simp [go_sem, hml, hfe, encD, encF], ?_⟩; first | apply hK | refine ⟨by simp [go_sem, hml, hfe, encD, encF], hK _ _ ?_⟩)) | refine ⟨.one (.one (.bool false)), by simp [go_sem, hml, hfe, encD, encF], hK _ _ ?_⟩ | refine ⟨ob, ?_⟩ | refine ⟨hK _ ?_, fun h => ?_⟩ | refine ⟨?_, ?_⟩); all_goals ((try apply hK); clear hK K))
          refine z_k (fun q e => ∃ j : Nat, j + q = m /\ (d.fields.take j).any (fun x => x.name == f.name) = false /\ e = [(8, .sv (.one (.int .i64 j))), (7, .sv (.one (.int .i64 m))), (5, .sv (.one (.bx (encD d)))), (4, .sv (.one (.int .i64 k))), (3, .sv (.one (.int .i64 ((allF (l.take k)).length : Nat)))), (0, .sv (.one (.sl (l.map encD))))]) m _ ⟨0, by simp, by simp, rfl⟩ (by simp [go_sem, encD]) ?_
          rintro q3 e ⟨j, hj, hany2, rfl⟩
          by_cases hjm : j < m
          ·have hjl : j < d.fields.length := by omega
           cases hx : (d.fields[j].name == f.name) with
           | true =>
             have hv := hfbad (by rw [hfo, any_no (p := fun x => x.name == f.name) hjl hx hjm]; simp)
             have q_ := aN hjm <| aN hjl <| aN hml <| aN hx <| hfe
             repeat' first | refine St.go ?_ | ((with_reducible refine cn ?_ ?_) <;> intro h <;> (try simp [q_] at h) <;> try omega) | (refine Ru.go ?_; intro K hK; simp [go_sem, encD, encF, q_]; (try simp (disch := omega) only [wx, z_i]); (first | apply hK | refine ⟨ob, ?_⟩ | refine ⟨hK _ ?_, fun h => ?_⟩ | refine ⟨?_, ?_⟩); all_goals ((try apply hK); clear hK K))
             all_goals try clear q_
             simp [go_sem, hv]
           | false =>
             have q_ := aN hjm <| aN hjl <| aN hml <| aN hx <| hfe
             repeat' first | refine St.go ?_ | ((with_reducible refine cn ?_ ?_) <;> intro h <;> (try simp [q_] at h) <;> try omega) | (refine Ru.go ?_; intro K hK; simp [go_sem, encD, encF, q_]; (try simp (disch := omega) only [wx, z_i]); (first | apply hK | refine ⟨ob, ?_⟩ | refine ⟨hK _ ?_, fun h => ?_⟩ | refine ⟨?_, ?_⟩); all_goals ((try apply hK); clear hK K))
             all_goals try clear q_
             refine z_j (q3 - 1) _ (by omega) ⟨j + 1, by omega, ?_, rfl⟩ ?_
             ·rw [any_succ hjl, hany2, hx]; rfl
             ·simp [go_sem, encD]
          ·have hje : j = m := by omega
           subst hje
           have hfo' : okFieldAt d.fields j = true := by rw [hfo, hw, hgs, hany2]; rfl
           repeat' first | refine St.go ?_ | ((with_reducible refine cn ?_ ?_) <;> intro h <;> (try simp [hjm] at h) <;> try omega) | (refine Ru.go ?_; intro K hK; simp [go_sem, hjm]; (try simp (disch := omega) only [wx, z_i]); (first | apply hK | refine ⟨ob, ?_⟩ | refine ⟨hK _ ?_, fun h => ?_⟩ | refine ⟨?_, ?_⟩); all_goals ((try apply hK); clear hK K))
           refine z_j (q2 - 1) _ (by omega) ⟨j + 1, by omega, ?_, rfl⟩ ?_
           ·rw [range_succ_all, hfa, hfo']; rfl
           ·simp [go_sem, encD]
     ·have hme : m = d.fields.length := by omega
      rw [hme] at hfa
      have hfs : okFields d.fields = true := hfa
      have f129s := f129 d.name hd3
      have f130s := f130 l d hl hf hd1 hd2
      rw [<- hA] at f130s
      cases hp : isPath d.name with
      | false =>
        have hv := hbad (by rw [hok, hp]; rfl)
        rw [hp] at f129s
        repeat' first | refine St.go ?_ | ((with_reducible refine cn ?_ ?_) <;> intro h <;> (try simp [hml] at h) <;> try omega) | (refine Ru.go ?_; intro K hK; simp [go_sem, hml, encD]; (try simp (disch := omega) only [wx, z_i]); (first | apply hK | ((try refine .inl ?_); refine ⟨_, by (try intro hc); (repeat' first | exact f129s | exact hc | refine And.intro ?_ ?_ | simp [go_sem, hml, encD]); first | done | omega, ?_⟩; first | apply hK | (refine ⟨by simp [go_sem, hml, encD], ?_⟩; first | apply hK | refine ⟨by simp [go_sem, hml, encD], hK _ _ ?_⟩)) | refine ⟨.one (.one (.bool false)), by simp [go_sem, hml, encD], hK _ _ ?_⟩ | refine ⟨ob, ?_⟩ | refine ⟨hK _ ?_, fun h => ?_⟩ | refine ⟨?_, ?_⟩); all_goals ((try apply hK); clear hK K))
        simp [go_sem, hv]
      | true =>
        rw [hp] at f129s
        by_cases h4 : d.fields.length <= 4
        ·have h4' : ¬ (4 : Int) < (d.fields.length : Int) := by omega
         by_cases hfst : d.first = ((allF (l.take k)).length : Int)
         ·have hfst' : (d.first != ((allF (l.take k)).length : Int)) = false := by simp [hfst]
          cases hgd : okGuard all d with
          | false =>
            have hv := hbad (by rw [hok, <- hA, hgd]; simp)
            rw [hgd] at f130s
            have q_ := aN hml <| aN h4' <| hfst'
            repeat' first | refine St.go ?_ | ((with_reducible refine cn ?_ ?_) <;> intro h <;> (try simp [q_] at h) <;> try omega) | (refine Ru.go ?_; intro K hK; simp [go_sem, encD, q_]; (try simp (disch := omega) only [wx, z_i]); (first | apply hK | ((try refine .inl ?_); refine ⟨_, by (try intro hc); (repeat' first | exact f129s | exact f130s | exact hc | refine And.intro ?_ ?_ | simp [go_sem, encD, q_]); first | done | omega, ?_⟩; first | apply hK | (refine ⟨by simp [go_sem, encD, q_], ?_⟩; first | apply hK | refine ⟨by simp [go_sem, encD, q_], hK _ _ ?_⟩)) | refine ⟨.one (.one (.bool false)), by simp [go_sem, encD, q_], hK _ _ ?_⟩ | refine ⟨ob, ?_⟩ | refine ⟨hK _ ?_, fun h => ?_⟩ | refine ⟨?_, ?_⟩); all_goals ((try apply hK); clear hK K))
            all_goals try clear q_
            simp [go_sem, hv]
          | true =>
            have hoi : okDeclAt l k = true := by rw [hok, <- hA, hgd, hp, hany, hfs]; simp [h4, hfst]
            rw [hgd] at f130s
            have q_ := aN hml <| aN h4' <| hfst'
            repeat' first | refine St.go ?_ | ((with_reducible refine cn ?_ ?_) <;> intro h <;> (try simp [q_] at h) <;> try omega) | (refine Ru.go ?_; intro K hK; simp [go_sem, encD, q_]; (try simp (disch := omega) only [wx, z_i]); (first | apply hK | ((try refine .inl ?_); refine ⟨_, by (try intro hc); (repeat' first | exact f129s | exact f130s | exact hc | refine And.intro ?_ ?_ | simp [go_sem, encD, q_]); first | done | omega, ?_⟩; first | apply hK | (refine ⟨by simp [go_sem, encD, q_], ?_⟩; first | apply hK | refine ⟨by simp [go_sem, encD, q_], hK _ _ ?_⟩)) | refine ⟨.one (.one (.bool false)), by simp [go_sem, encD, q_], hK _ _ ?_⟩ | refine ⟨ob, ?_⟩ | refine ⟨hK _ ?_, fun h => ?_⟩ | refine ⟨?_, ?_⟩); all_goals ((try apply hK); clear hK K))
            all_goals try clear q_
            refine z_j (n - 1) _ (by omega) ⟨k + 1, by omega, ?_, rfl⟩ ?_
            ·rw [range_succ_all, hall, hoi]; rfl
            ·simp [go_sem, hsc]
         ·have hv := hbad (by rw [hok]; simp [hfst])
          have q_ := aN hml <| aN h4' <| hfst
          repeat' first | refine St.go ?_ | ((with_reducible refine cn ?_ ?_) <;> intro h <;> (try simp [q_] at h) <;> try omega) | (refine Ru.go ?_; intro K hK; simp [go_sem, encD, q_]; (try simp (disch := omega) only [wx, z_i]); (first | apply hK | ((try refine .inl ?_); refine ⟨_, by (try intro hc); (repeat' first | exact f129s | exact hc | refine And.intro ?_ ?_ | simp [go_sem, encD, q_]); first | done | omega, ?_⟩; first | apply hK | (refine ⟨by simp [go_sem, encD, q_], ?_⟩; first | apply hK | refine ⟨by simp [go_sem, encD, q_], hK _ _ ?_⟩)) | refine ⟨.one (.one (.bool false)), by simp [go_sem, encD, q_], hK _ _ ?_⟩ | refine ⟨ob, ?_⟩ | refine ⟨hK _ ?_, fun h => ?_⟩ | refine ⟨?_, ?_⟩); all_goals ((try apply hK); clear hK K))
          all_goals try clear q_
          simp [go_sem, hv]
        ·have h4' : (4 : Int) < (d.fields.length : Int) := by omega
         have hv := hbad (by rw [hok]; simp [h4])
         repeat' first | refine St.go ?_ | ((with_reducible refine cn ?_ ?_) <;> intro h <;> (try simp [hml, h4'] at h) <;> try omega) | (refine Ru.go ?_; intro K hK; simp [go_sem, hml, h4', encD]; (try simp (disch := omega) only [wx, z_i]); (first | apply hK | ((try refine .inl ?_); refine ⟨_, by (try intro hc); (repeat' first | exact f129s | exact hc | refine And.intro ?_ ?_ | simp [go_sem, hml, h4', encD]); first | done | omega, ?_⟩; first | apply hK | (refine ⟨by simp [go_sem, hml, h4', encD], ?_⟩; first | apply hK | refine ⟨by simp [go_sem, hml, h4', encD], hK _ _ ?_⟩)) | refine ⟨.one (.one (.bool false)), by simp [go_sem, hml, h4', encD], hK _ _ ?_⟩ | refine ⟨ob, ?_⟩ | refine ⟨hK _ ?_, fun h => ?_⟩ | refine ⟨?_, ?_⟩); all_goals ((try apply hK); clear hK K))
         simp [go_sem, hv]
   ·have hie : i = l.length := by omega
    rw [hie] at hall
    repeat' first | refine St.go ?_ | ((with_reducible refine cn ?_ ?_) <;> intro h <;> (try simp [hlt] at h) <;> try omega) | (refine Ru.go ?_; intro K hK; simp [go_sem, hlt]; (try simp (disch := omega) only [wx, z_i]); (first | apply hK | refine ⟨ob, ?_⟩ | refine ⟨hK _ ?_, fun h => ?_⟩ | refine ⟨?_, ?_⟩); all_goals ((try apply hK); clear hK K))
    have hv : validD l = true := by simp only [validD, h40, decide_true, Bool.true_and, <- hA, h24, hall]
    simp [go_sem, hv]
  ·have h24' : (24 : Int) < (all.length : Int) := by omega
   repeat' first | refine St.go ?_ | ((with_reducible refine cn ?_ ?_) <;> intro h <;> (try simp [h40', h24'] at h) <;> try omega) | (refine Ru.go ?_; intro K hK; simp [go_sem, h40', h24']; (try simp (disch := omega) only [wx, z_i]); (first | apply hK | ((try refine .inl ?_); refine ⟨_, by (try intro hc); (repeat' first | exact f93s | exact hc | refine And.intro ?_ ?_ | simp [go_sem, h40', h24']); first | done | omega, ?_⟩; first | apply hK | (refine ⟨by simp [go_sem, h40', h24'], ?_⟩; first | apply hK | refine ⟨by simp [go_sem, h40', h24'], hK _ _ ?_⟩)) | refine ⟨.one (.one (.bool false)), by simp [go_sem, h40', h24'], hK _ _ ?_⟩ | refine ⟨ob, ?_⟩ | refine ⟨hK _ ?_, fun h => ?_⟩ | refine ⟨?_, ?_⟩); all_goals ((try apply hK); clear hK K))
   have hv : validD l = false := by simp [validD, <- hA, h24]
   simp [go_sem, hv]
 ·have h40' : (40 : Int) < (l.length : Int) := by omega
  repeat' first | refine St.go ?_ | ((with_reducible refine cn ?_ ?_) <;> intro h <;> (try simp [h40'] at h) <;> try omega) | (refine Ru.go ?_; intro K hK; simp [go_sem, h40']; (try simp (disch := omega) only [wx, z_i]); (first | apply hK | refine ⟨ob, ?_⟩ | refine ⟨hK _ ?_, fun h => ?_⟩ | refine ⟨?_, ?_⟩); all_goals ((try apply hK); clear hK K))
  have hv : validD l = false := by simp [validD, h40]
  simp [go_sem, hv]
def boundsAt (d : Dcl) (i : Nat) : List Dff := match d.fields[i]? with
 | some f => [⟨d.first + i, -1, f.hi⟩, ⟨-1, d.first + i, 0 - f.lo⟩]
 | none => []
def boundsF (d : Dcl) (k : Nat) : List Dff := (List.range k).flatMap (boundsAt d)
def boundsE (es : List (Int × Int)) : List Dff := es.flatMap fun e => [⟨e.1, e.2, 0⟩, ⟨e.2, e.1, 0⟩]
def boundsOf (d : Dcl) : List Dff := boundsF d d.fields.length ++ d.diffs ++ boundsE d.equals
theorem boundsF_succ {d : Dcl} {k : Nat} (h : k < d.fields.length) : boundsF d (k + 1) = boundsF d k ++ [⟨d.first + k, -1, d.fields[k].hi⟩, ⟨-1, d.first + k, 0 - d.fields[k].lo⟩] := by
 simp [boundsF, List.range_succ, boundsAt, h]
theorem boundsF_len (d : Dcl) : ∀ k, (boundsF d k).length <= 2 * k
 | 0 => by simp [boundsF]
 | k + 1 => by
   have ih := boundsF_len d k
   have : (boundsAt d k).length <= 2 := by unfold boundsAt; split <;> simp
   have e : boundsF d (k + 1) = boundsF d k ++ boundsAt d k := by simp [boundsF, List.range_succ]
   rw [e, List.length_append]
   omega
theorem boundsE_len : ∀ l : List (Int × Int), (boundsE l).length = 2 * l.length
 | [] => rfl
 | e :: l => by
   have := boundsE_len l
   simp only [boundsE, List.flatMap_cons, List.length_append, List.length_cons, List.length_nil] at this ⊢
   omega
theorem boundsE_succ {l : List (Int × Int)} {k : Nat} (h : k < l.length) : boundsE (l.take (k + 1)) = boundsE (l.take k) ++ [⟨l[k].1, l[k].2, 0⟩, ⟨l[k].2, l[k].1, 0⟩] := by
 unfold boundsE
 rw [List.take_succ_eq_append_getElem h, List.flatMap_append]
 simp
theorem f121 (d : Dcl) (hf : d.fields.length <= 100) (hd : d.diffs.length <= 1000) (he : d.equals.length <= 1000) (hfst : -1000000 <= d.first /\ d.first <= 1000000) (hlo : ∀ f ∈ d.fields, -1000000 <= f.lo /\ f.lo <= 1000000) :
  Impl Tryz.prog 121 [.ag (encD d)] (.one (.one (.ow 3 ((boundsOf d).map encDf)))) := by
 refine impl_w Tryz.func121 z121 Tryz.ntmps121 (by simp) ?_
 simp only [slotsOf]
 conv => arg 2; reduce
 repeat' first | refine St.go ?_ | ((with_reducible refine cn ?_ ?_) <;> intro h <;> (try simp at h) <;> try omega) | (refine Ru.go ?_; intro K hK; simp [go_sem, encD]; (try simp (disch := omega) only [wx, z_i]); (first | apply hK | refine ⟨by first | omega | (simp [z_f, z_g, encD]; first | done | omega), ?_⟩ | refine ⟨hK _ ?_, fun h => ?_⟩ | refine ⟨?_, ?_⟩); all_goals ((try apply hK); clear hK K))
 refine z_k (fun n e => ∃ k : Nat, k + n = d.fields.length /\ e = [(11, .sv (.one (.int .i64 k))), (10, .sv (.one (.int .i64 d.fields.length))), (9, .sv (.one (.sl (d.fields.map encF)))), (3, .sv (.one (.ow 3 ((boundsF d k).map encDf)))), (1, .sv (.one (.bx (encD d))))]) d.fields.length _ ⟨0, by simp, rfl⟩ (by simp [go_sem, boundsF, encD]) ?_
 rintro n e ⟨k, hk, rfl⟩
 by_cases hlt : k < d.fields.length
 ·have hbl := boundsF_len d k
  have hs := boundsF_succ hlt
  obtain ⟨f, hfe⟩ : ∃ f, d.fields[k] = f := ⟨_, rfl⟩
  have hlo' := hlo d.fields[k] (List.getElem_mem hlt)
  rw [hfe] at hlo' hs
  have w1 : IntKind.i64.wrap (d.first + (k : Int)) = d.first + k := z_h (by omega) (by omega)
  have w2 : IntKind.i64.wrap (0 - f.lo) = 0 - f.lo := z_h (by omega) (by omega)
  have w3 : IntKind.i64.wrap (-f.lo) = 0 - f.lo := by rw [z_h (by omega) (by omega)]; omega
  have q_ := aN hlt <| aN hfe <| aN w1 <| aN w2 <| w3
  repeat' first | refine St.go ?_ | ((with_reducible refine cn ?_ ?_) <;> intro h <;> (try simp [q_] at h) <;> try omega) | (refine Ru.go ?_; intro K hK; simp [go_sem, encD, encF, q_]; (try simp (disch := omega) only [wx, z_i]); (first | apply hK | refine ⟨by first | omega | (simp [z_f, z_g, encD, encF, q_, maxLen, DV.flat, encDf]; first | done | omega), ?_⟩ | refine ⟨hK _ ?_, fun h => ?_⟩ | refine ⟨?_, ?_⟩); all_goals ((try apply hK); clear hK K))
  all_goals try clear q_
  refine z_j (n - 1) _ (by omega) ⟨k + 1, by omega, rfl⟩ ?_
  simp [go_sem, hs, encD, encDf]
 ·have hke : k = d.fields.length := by omega
  subst hke
  have hbl := boundsF_len d d.fields.length
  repeat' first | refine St.go ?_ | ((with_reducible refine cn ?_ ?_) <;> intro h <;> (try simp [hlt] at h) <;> try omega) | (refine Ru.go ?_; intro K hK; simp [go_sem, hlt, encD]; (try simp (disch := omega) only [wx, z_i]); (first | apply hK | refine ⟨by first | omega | (simp [z_f, z_g, hlt, encD, maxLen, DV.flat, encDf]; first | done | omega), ?_⟩ | refine ⟨hK _ ?_, fun h => ?_⟩ | refine ⟨?_, ?_⟩); all_goals ((try apply hK); clear hK K))
  refine z_k (fun n e => ∃ k : Nat, k + n = d.equals.length /\ e = [(46, .sv (.one (.int .i64 k))), (45, .sv (.one (.int .i64 d.equals.length))), (44, .sv (.one (.sl (d.equals.map encEq)))), (3, .sv (.one (.ow 3 ((boundsF d d.fields.length ++ d.diffs ++ boundsE (d.equals.take k)).map encDf))))]) d.equals.length _ ⟨0, by simp, rfl⟩ (by simp [go_sem, boundsE]) ?_
  rintro n e ⟨k, hk, rfl⟩
  by_cases hlt2 : k < d.equals.length
  ·have hbe := boundsE_len (d.equals.take k)
   have htk : (d.equals.take k).length <= d.equals.length := by rw [List.length_take]; omega
   have hs := boundsE_succ hlt2
   repeat' first | refine St.go ?_ | ((with_reducible refine cn ?_ ?_) <;> intro h <;> (try simp [hlt2] at h) <;> try omega) | (refine Ru.go ?_; intro K hK; simp [go_sem, hlt2, encEq]; (try simp (disch := omega) only [wx, z_i]); (first | apply hK | refine ⟨by first | omega | (simp [z_f, z_g, hlt2, encEq, maxLen, DV.flat, encDf]; first | done | omega), ?_⟩ | refine ⟨hK _ ?_, fun h => ?_⟩ | refine ⟨?_, ?_⟩); all_goals ((try apply hK); clear hK K))
   refine z_j (n - 1) _ (by omega) ⟨k + 1, by omega, rfl⟩ ?_
   simp [go_sem, hs, encDf]
  ·have hkl : d.equals.take k = d.equals := List.take_of_length_le (by omega)
   repeat' first | refine St.go ?_ | ((with_reducible refine cn ?_ ?_) <;> intro h <;> (try simp [hlt2, hkl] at h) <;> try omega) | (refine Ru.go ?_; intro K hK; simp [go_sem, hlt2, hkl]; (try simp (disch := omega) only [wx, z_i]); (first | apply hK | refine ⟨by first | omega | (simp [z_f, z_g, hlt2, hkl]; first | done | omega), ?_⟩ | refine ⟨hK _ ?_, fun h => ?_⟩ | refine ⟨?_, ?_⟩); all_goals ((try apply hK); clear hK K))
   simp [go_sem, boundsOf]
end Go.Av
