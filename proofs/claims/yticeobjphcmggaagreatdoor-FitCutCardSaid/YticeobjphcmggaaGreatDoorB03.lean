/- Part of a proof. -/
import Derived.Test.YticeobjphcmggaaGreatDoorAvR
import Derived.Test.YticeobjphcmggaaGreatDoorB02
set_option linter.unusedVariables false
set_option linter.unusedSimpArgs false
set_option maxHeartbeats 64000000
set_option maxRecDepth 8000
namespace Go.Av
open Go Go.RowKit Go.Proofs
set_option maxHeartbeats 64000000
def isS (p : Int) (x : Ev) : Bool := x.send && x.peer == p
def nthE (h : List Ev) (p : Int) (n : Nat) : Option Ev := (h.filter (isS p))[n]?
def nthD : Option Ev -> DV
 | none => .nil
 | some x => valsDV x.vals
theorem nth_skip {h : List Ev} {k m : Nat} {p : Int} {x : Ev} (hl : k < h.length) (hx : h[k] = x) (hs : isS p x = false) : nthE (h.drop (k + 1)) p m = nthE (h.drop k) p m := by
 unfold nthE
 rw [List.drop_eq_getElem_cons hl, hx, List.filter_cons, hs]
 rfl
theorem nth_take {h : List Ev} {k : Nat} {p : Int} {x : Ev} (hl : k < h.length) (hx : h[k] = x) (hs : isS p x = true) : nthE (h.drop k) p 0 = some x := by
 unfold nthE
 rw [List.drop_eq_getElem_cons hl, hx, List.filter_cons, hs]
 rfl
theorem nth_next {h : List Ev} {k m : Nat} {p : Int} {x : Ev} (hl : k < h.length) (hx : h[k] = x) (hs : isS p x = true) : nthE (h.drop (k + 1)) p m = nthE (h.drop k) p (m + 1) := by
 unfold nthE
 rw [List.drop_eq_getElem_cons hl, hx, List.filter_cons, hs]
 rfl
theorem nth_end {h : List Ev} {m : Nat} {p : Int} : nthE (h.drop h.length) p m = none := by
 unfold nthE
 rw [List.drop_length]
 rfl
theorem f58 (h : List Ev) (p : Int) (n0 : Nat) (hl : h.length <= 1000000) (hn : n0 <= 1000000) : Impl Tryz.prog 58 [.one (.sl (h.map encE)), .one (.int .i64 p), .one (.int .i64 n0)] (.tup [.one (nthD (nthE h p n0)), .one (.bool (nthE h p n0).isSome)]) := by
 obtain ⟨r, hr⟩ : ∃ r, nthE h p n0 = r := ⟨_, rfl⟩
 rw [hr]
 refine impl_v ?_
 refine wN ?_
 refine z_k (fun n e => ∃ k m : Nat, k + n = h.length /\ m <= 1000000 /\ nthE (h.drop k) p m = r /\ e = [(12, .sv (.one (.int .i64 k))), (11, .sv (.one (.int .i64 h.length))), (10, .sv (.one (.sl (h.map encE)))), (2, .sv (.one (.int .i64 m))), (1, .sv (.one (.int .i64 p)))]) h.length _ ⟨0, n0, by simp, hn, by rw [List.drop_zero]; exact hr, rfl⟩ (by simp [go_sem]) ?_
 rintro n e ⟨k, m, hk, hm, hrk, rfl⟩
 by_cases hlt : k < h.length
 ·obtain ⟨x, hx⟩ : ∃ x, h[k] = x := ⟨_, rfl⟩
  cases c1 : x.send with
  | false =>
    have hs : isS p x = false := by simp [isS, c1]
    refine wX (aN hlt <| aN hx <| aN encE.eq_1 c1) ?_
    refine z_j (n - 1) _ (by omega) ⟨k + 1, m, by omega, hm, (nth_skip hlt hx hs).trans hrk, rfl⟩ ?_
    simp [go_sem]
  | true =>
    cases c2 : (x.peer == p) with
    | false =>
      have hs : isS p x = false := by simp [isS, c1, c2]
      refine wX (aN hlt <| aN hx <| aN encE.eq_1 <| aN c1 c2) ?_
      refine z_j (n - 1) _ (by omega) ⟨k + 1, m, by omega, hm, (nth_skip hlt hx hs).trans hrk, rfl⟩ ?_
      simp [go_sem]
    | true =>
      have hs : isS p x = true := by simp [isS, c1, c2]
      cases m with
      | zero =>
        have hr2 : some x = r := (nth_take hlt hx hs).symm.trans hrk
        subst hr2
        cases hv : x.vals with
        | none =>
          refine wX (aN hlt <| aN hx <| aN encE.eq_1 <| aN c1 <| aN c2 <| aN hv <| aN valsDV.eq_1 valsDV.eq_2) ?_
          simp [go_sem, nthD, hv, valsDV]
        | some v =>
          refine wX (aN hlt <| aN hx <| aN encE.eq_1 <| aN c1 <| aN c2 <| aN hv <| aN valsDV.eq_1 valsDV.eq_2) ?_
          simp [go_sem, nthD, hv, valsDV]
      | succ m =>
        have hm1 : ((m + 1 : Nat) : Int) - 1 = m := by omega
        have hm0 : (((m + 1 : Nat) : Int) == 0) = false := by simp; omega
        refine wX (aN hlt <| aN hx <| aN encE.eq_1 <| aN c1 <| aN c2 <| aN hm0 hm1) ?_
        refine z_j (n - 1) _ (by omega) ⟨k + 1, m, by omega, by omega, (nth_next hlt hx hs).trans hrk, rfl⟩ ?_
        simp [go_sem]
 ·have hke : k = h.length := by omega
  rw [hke, nth_end] at hrk
  subst hrk
  refine wX hlt ?_
  simp [go_sem, nthD]
theorem f65 (h : List Ev) (p : Int) (n0 : Nat) (hl : h.length <= 1000000) (hn : n0 <= 1000000) : Impl Tryz.prog 65 [.one (.sl (h.map encE)), .one (.int .i64 p), .one (.int .i64 n0)] (.tup [.one (nthD (nthE h p n0)), .one (.bool (nthE h p n0).isSome)]) := by
 obtain ⟨r, hr⟩ : ∃ r, nthE h p n0 = r := ⟨_, rfl⟩
 rw [hr]
 refine impl_v ?_
 refine wN ?_
 refine z_k (fun n e => ∃ k m : Nat, k + n = h.length /\ m <= 1000000 /\ nthE (h.drop k) p m = r /\ e = [(8, .sv (.one (.int .i64 k))), (2, .sv (.one (.int .i64 m))), (1, .sv (.one (.int .i64 p))), (0, .sv (.one (.sl (h.map encE))))]) h.length _ ⟨0, n0, by simp, hn, by rw [List.drop_zero]; exact hr, rfl⟩ (by simp [go_sem]) ?_
 rintro n e ⟨k, m, hk, hm, hrk, rfl⟩
 by_cases hlt : k < h.length
 ·obtain ⟨x, hx⟩ : ∃ x, h[k] = x := ⟨_, rfl⟩
  cases c1 : x.send with
  | false =>
    have hs : isS p x = false := by simp [isS, c1]
    refine wX (aN hlt <| aN hx <| aN encE.eq_1 c1) ?_
    refine z_j (n - 1) _ (by omega) ⟨k + 1, m, by omega, hm, (nth_skip hlt hx hs).trans hrk, rfl⟩ ?_
    simp [go_sem]
  | true =>
    cases c2 : (x.peer == p) with
    | false =>
      have hs : isS p x = false := by simp [isS, c1, c2]
      refine wX (aN hlt <| aN hx <| aN encE.eq_1 <| aN c1 c2) ?_
      refine z_j (n - 1) _ (by omega) ⟨k + 1, m, by omega, hm, (nth_skip hlt hx hs).trans hrk, rfl⟩ ?_
      simp [go_sem]
    | true =>
      have hs : isS p x = true := by simp [isS, c1, c2]
      cases m with
      | zero =>
        have hr2 : some x = r := (nth_take hlt hx hs).symm.trans hrk
        subst hr2
        cases hv : x.vals with
        | none =>
          refine wX (aN hlt <| aN hx <| aN encE.eq_1 <| aN c1 <| aN c2 <| aN hv <| aN valsDV.eq_1 valsDV.eq_2) ?_
          simp [go_sem, nthD, hv, valsDV]
        | some v =>
          refine wX (aN hlt <| aN hx <| aN encE.eq_1 <| aN c1 <| aN c2 <| aN hv <| aN valsDV.eq_1 valsDV.eq_2) ?_
          simp [go_sem, nthD, hv, valsDV]
      | succ m =>
        have hm1 : ((m + 1 : Nat) : Int) - 1 = m := by omega
        have hm0 : (((m + 1 : Nat) : Int) == 0) = false := by simp; omega
        refine wX (aN hlt <| aN hx <| aN encE.eq_1 <| aN c1 <| aN c2 <| aN hm0 hm1) ?_
        refine z_j (n - 1) _ (by omega) ⟨k + 1, m, by omega, by omega, (nth_next hlt hx hs).trans hrk, rfl⟩ ?_
        simp [go_sem]
 ·have hke : k = h.length := by omega
  rw [hke, nth_end] at hrk
  subst hrk
  refine wX hlt ?_
  simp [go_sem, nthD]
set_option maxHeartbeats 64000000
theorem any_no {α : Type} {p : α -> Bool} {l : List α} {k : Nat} (h : k < l.length) (hb : p l[k] = true) {m : Nat} (hm : k < m) : (l.take m).any p = true := by
 rw [List.any_eq_true]
 exact ⟨l[k], List.mem_iff_getElem.2 ⟨k, by rw [List.length_take]; omega, by simp⟩, hb⟩
theorem f109 (l : List Dcl) (hl : l.length <= 1000) (hf : ∀ d ∈ l, d.fields.length <= 100000) (hdl : ∀ d ∈ l, d.diffs.length <= 1000000 /\ d.equals.length <= 1000000 /\ d.name.size <= 1000000000000000) : Impl Tryz.prog 109 [.one (.sl (l.map encD))] (.one (.one (.bool (validD l)))) := by
 refine impl_v ?_
 by_cases h40 : l.length <= 40
 ·have h40' : ¬ (40 : Int) < (l.length : Int) := by omega
  have f93s := f93 l hl hf
  obtain ⟨all, hA⟩ : ∃ all, all = allF l := ⟨_, rfl⟩
  rw [<- hA] at f93s
  by_cases h24 : all.length <= 24
  ·have h24' : ¬ (24 : Int) < (all.length : Int) := by omega
   refine wV (aN h40' h24') f93s ?_
   refine z_k (fun n e => ∃ i : Nat, i + n = l.length /\ (List.range i).all (okDeclAt l) = true /\ e = [(4, .sv (.one (.int .i64 i))), (3, .sv (.one (.int .i64 ((allF (l.take i)).length : Nat)))), (0, .sv (.one (.sl (l.map encD))))]) l.length _ ⟨0, by simp, by simp, rfl⟩ (by simp [go_sem, allF]) ?_
   rintro n e ⟨i, hi, hall, rfl⟩
   by_cases hlt : i < l.length
   ·have hfi := hf l[i] (List.getElem_mem hlt)
    obtain ⟨hd1, hd2, hd3⟩ := hdl l[i] (List.getElem_mem hlt)
    have hok := okDeclAt_get hlt
    have hbad : okDeclAt l i = false -> validD l = false := fun h => by simp [validD, range_all_no hlt h]
    have hat := allF_take_le (k := i) hf
    have hsc := congrArg List.length (allF_succ hlt)
    rw [List.length_append] at hsc
    obtain ⟨d, hd⟩ : ∃ d, l[i] = d := ⟨_, rfl⟩
    rw [hd] at hfi hok hsc hd1 hd2 hd3
    refine wX (aN hlt <| aN hd encD.eq_1) ?_
    refine z_k (fun q e => ∃ k : Nat, k + q = i /\ (l.take k).any (fun x => x.name == d.name) = false /\ e = [(6, .sv (.one (.int .i64 k))), (5, .sv (.one (.bx (encD d)))), (4, .sv (.one (.int .i64 i))), (3, .sv (.one (.int .i64 ((allF (l.take i)).length : Nat)))), (0, .sv (.one (.sl (l.map encD))))]) i _ ⟨0, by simp, by simp, rfl⟩ (by simp [go_sem, encD]) ?_
    rintro q e ⟨k, hk, hany, rfl⟩
    by_cases hki : k < i
    ·have hkl : k < l.length := by omega
     cases hx : (l[k].name == d.name) with
     | true =>
       have hv := hbad (by rw [hok, any_no (p := fun x => x.name == d.name) hkl hx hki]; simp)
       refine wX (aN hki <| aN hkl <| aN hx encD.eq_1) ?_
       simp [go_sem, hv]
     | false =>
       refine wX (aN hki <| aN hkl <| aN hx encD.eq_1) ?_
       refine z_j (q - 1) _ (by omega) ⟨k + 1, by omega, ?_, rfl⟩ ?_
       ·rw [any_succ hkl, hany, hx]; rfl
       ·simp [go_sem, encD]
    ·have hke : k = i := by omega
     subst hke
     refine wX hki ?_
     refine z_k (fun q e => ∃ k' : Nat, k' + q = d.fields.length /\ (List.range k').all (okFieldAt d.fields) = true /\ e = [(7, .sv (.one (.int .i64 k'))), (5, .sv (.one (.bx (encD d)))), (4, .sv (.one (.int .i64 k))), (3, .sv (.one (.int .i64 ((allF (l.take k)).length : Nat)))), (0, .sv (.one (.sl (l.map encD))))]) d.fields.length _ ⟨0, by simp, by simp, rfl⟩ (by simp [go_sem, encD]) ?_
     rintro q2 e ⟨m, hm, hfa, rfl⟩
     by_cases hml : m < d.fields.length
     ·have hfo := okFieldAt_get hml
      have hfbad : okFieldAt d.fields m = false -> validD l = false := fun h => hbad (by rw [hok]; simp [okFields, range_all_no hml h])
      obtain ⟨f, hfe⟩ : ∃ f, d.fields[m] = f := ⟨_, rfl⟩
      rw [hfe] at hfo
      have f107s := f107 f.name
      have f128s := f128 f.kind f.lo f.hi f.name
      have hge : goodSort ⟨f.name, f.kind, f.lo, f.hi⟩ = goodSort f := rfl
      rw [hge] at f128s
      cases hgs : goodSort f with
      | false =>
        have hv := hfbad (by rw [hfo, hgs]; simp)
        rw [hgs] at f128s
        refine wV (aN hml <| aN hfe <| aN encD.eq_1 encF.eq_1) f128s ?_
        simp [go_sem, hv]
      | true =>
        rw [hgs] at f128s
        cases hw : isWord f.name with
        | false =>
          have hv := hfbad (by rw [hfo, hw]; rfl)
          rw [hw] at f107s
          refine wV (aN hml <| aN hfe <| aN encD.eq_1 encF.eq_1) (aN f107s f128s) ?_
          simp [go_sem, hv]
        | true =>
          rw [hw] at f107s
          refine wV (aN hml <| aN hfe <| aN encD.eq_1 encF.eq_1) (aN f107s f128s) ?_
          refine z_k (fun q e => ∃ j : Nat, j + q = m /\ (d.fields.take j).any (fun x => x.name == f.name) = false /\ e = [(8, .sv (.one (.int .i64 j))), (7, .sv (.one (.int .i64 m))), (5, .sv (.one (.bx (encD d)))), (4, .sv (.one (.int .i64 k))), (3, .sv (.one (.int .i64 ((allF (l.take k)).length : Nat)))), (0, .sv (.one (.sl (l.map encD))))]) m _ ⟨0, by simp, by simp, rfl⟩ (by simp [go_sem, encD]) ?_
          rintro q3 e ⟨j, hj, hany2, rfl⟩
          by_cases hjm : j < m
          ·have hjl : j < d.fields.length := by omega
           cases hx : (d.fields[j].name == f.name) with
           | true =>
             have hv := hfbad (by rw [hfo, any_no (p := fun x => x.name == f.name) hjl hx hjm]; simp)
             refine wX (aN hjm <| aN hjl <| aN hml <| aN hx <| aN hfe <| aN encD.eq_1 encF.eq_1) ?_
             simp [go_sem, hv]
           | false =>
             refine wX (aN hjm <| aN hjl <| aN hml <| aN hx <| aN hfe <| aN encD.eq_1 encF.eq_1) ?_
             refine z_j (q3 - 1) _ (by omega) ⟨j + 1, by omega, ?_, rfl⟩ ?_
             ·rw [any_succ hjl, hany2, hx]; rfl
             ·simp [go_sem, encD]
          ·have hje : j = m := by omega
           subst hje
           have hfo' : okFieldAt d.fields j = true := by rw [hfo, hw, hgs, hany2]; rfl
           refine wX hjm ?_
           refine z_j (q2 - 1) _ (by omega) ⟨j + 1, by omega, ?_, rfl⟩ ?_
           ·rw [range_succ_all, hfa, hfo']; rfl
           ·simp [go_sem, encD]
     ·have hme : m = d.fields.length := by omega
      rw [hme] at hfa
      have hfs : okFields d.fields = true := hfa
      have f129s := f129 d.name hd3
      have f130s := f130 l d hl hf hd1 hd2
      rw [<- hA] at f130s
      cases hp : isPath d.name with
      | false =>
        have hv := hbad (by rw [hok, hp]; rfl)
        rw [hp] at f129s
        refine wV (aN hml encD.eq_1) f129s ?_
        simp [go_sem, hv]
      | true =>
        rw [hp] at f129s
        by_cases h4 : d.fields.length <= 4
        ·have h4' : ¬ (4 : Int) < (d.fields.length : Int) := by omega
         by_cases hfst : d.first = ((allF (l.take k)).length : Int)
         ·have hfst' : (d.first != ((allF (l.take k)).length : Int)) = false := by simp [hfst]
          cases hgd : okGuard all d with
          | false =>
            have hv := hbad (by rw [hok, <- hA, hgd]; simp)
            rw [hgd] at f130s
            refine wV (aN hml <| aN h4' <| aN hfst' encD.eq_1) (aN f129s f130s) ?_
            simp [go_sem, hv]
          | true =>
            have hoi : okDeclAt l k = true := by rw [hok, <- hA, hgd, hp, hany, hfs]; simp [h4, hfst]
            rw [hgd] at f130s
            refine wV (aN hml <| aN h4' <| aN hfst' encD.eq_1) (aN f129s f130s) ?_
            refine z_j (n - 1) _ (by omega) ⟨k + 1, by omega, ?_, rfl⟩ ?_
            ·rw [range_succ_all, hall, hoi]; rfl
            ·simp [go_sem, hsc]
         ·have hv := hbad (by rw [hok]; simp [hfst])
          refine wV (aN hml <| aN h4' <| aN hfst encD.eq_1) f129s ?_
          simp [go_sem, hv]
        ·have h4' : (4 : Int) < (d.fields.length : Int) := by omega
         have hv := hbad (by rw [hok]; simp [h4])
         refine wV (aN hml <| aN h4' encD.eq_1) f129s ?_
         simp [go_sem, hv]
   ·have hie : i = l.length := by omega
    rw [hie] at hall
    refine wX hlt ?_
    have hv : validD l = true := by simp only [validD, h40, decide_true, Bool.true_and, <- hA, h24, hall]
    simp [go_sem, hv]
  ·have h24' : (24 : Int) < (all.length : Int) := by omega
   refine wV (aN h40' h24') f93s ?_
   have hv : validD l = false := by simp [validD, <- hA, h24]
   simp [go_sem, hv]
 ·have h40' : (40 : Int) < (l.length : Int) := by omega
  refine wX h40' ?_
  have hv : validD l = false := by simp [validD, h40]
  simp [go_sem, hv]
set_option maxHeartbeats 64000000
def boundsAt (d : Dcl) (i : Nat) : List Dff := match d.fields[i]? with
 | some f => [⟨d.first + i, -1, f.hi⟩, ⟨-1, d.first + i, 0 - f.lo⟩]
 | none => []
def boundsF (d : Dcl) (k : Nat) : List Dff := (List.range k).flatMap (boundsAt d)
def boundsE (es : List (Int × Int)) : List Dff := es.flatMap fun e => [⟨e.1, e.2, 0⟩, ⟨e.2, e.1, 0⟩]
def boundsOf (d : Dcl) : List Dff := boundsF d d.fields.length ++ d.diffs ++ boundsE d.equals
theorem boundsF_succ {d : Dcl} {k : Nat} (h : k < d.fields.length) : boundsF d (k + 1) = boundsF d k ++ [⟨d.first + k, -1, d.fields[k].hi⟩, ⟨-1, d.first + k, 0 - d.fields[k].lo⟩] := by
 simp [boundsF, List.range_succ, boundsAt, h]
theorem boundsF_len (d : Dcl) : ∀ k, (boundsF d k).length <= 2 * k
 | 0 => by simp [boundsF]
 | k + 1 => by
   have ih := boundsF_len d k
   have : (boundsAt d k).length <= 2 := by unfold boundsAt; split <;> simp
   have e : boundsF d (k + 1) = boundsF d k ++ boundsAt d k := by simp [boundsF, List.range_succ]
   rw [e, List.length_append]
   omega
theorem boundsE_len : ∀ l : List (Int × Int), (boundsE l).length = 2 * l.length
 | [] => rfl
 | e :: l => by
   have := boundsE_len l
   simp only [boundsE, List.flatMap_cons, List.length_append, List.length_cons, List.length_nil] at this ⊢
   omega
theorem boundsE_succ {l : List (Int × Int)} {k : Nat} (h : k < l.length) : boundsE (l.take (k + 1)) = boundsE (l.take k) ++ [⟨l[k].1, l[k].2, 0⟩, ⟨l[k].2, l[k].1, 0⟩] := by
 unfold boundsE
 rw [List.take_succ_eq_append_getElem h, List.flatMap_append]
 simp
theorem f121 (d : Dcl) (hf : d.fields.length <= 100) (hd : d.diffs.length <= 1000) (he : d.equals.length <= 1000) (hfst : -1000000 <= d.first /\ d.first <= 1000000) (hlo : ∀ f ∈ d.fields, -1000000 <= f.lo /\ f.lo <= 1000000) :
  Impl Tryz.prog 121 [.ag (encD d)] (.one (.one (.ow 3 ((boundsOf d).map encDf)))) := by
 refine impl_v ?_
 refine wX encD.eq_1 ?_
 refine z_k (fun n e => ∃ k : Nat, k + n = d.fields.length /\ e = [(11, .sv (.one (.int .i64 k))), (10, .sv (.one (.int .i64 d.fields.length))), (9, .sv (.one (.sl (d.fields.map encF)))), (3, .sv (.one (.ow 3 ((boundsF d k).map encDf)))), (1, .sv (.one (.bx (encD d))))]) d.fields.length _ ⟨0, by simp, rfl⟩ (by simp [go_sem, boundsF, encD]) ?_
 rintro n e ⟨k, hk, rfl⟩
 by_cases hlt : k < d.fields.length
 ·have hbl := boundsF_len d k
  have hs := boundsF_succ hlt
  obtain ⟨f, hfe⟩ : ∃ f, d.fields[k] = f := ⟨_, rfl⟩
  have hlo' := hlo d.fields[k] (List.getElem_mem hlt)
  rw [hfe] at hlo' hs
  have w1 : IntKind.i64.wrap (d.first + (k : Int)) = d.first + k := z_h (by omega) (by omega)
  have w2 : IntKind.i64.wrap (0 - f.lo) = 0 - f.lo := z_h (by omega) (by omega)
  have w3 : IntKind.i64.wrap (-f.lo) = 0 - f.lo := by rw [z_h (by omega) (by omega)]; omega
  repeat' first | refine St.go ?_ | ((with_reducible refine cn ?_ ?_) <;> intro h <;> (try simp at h) <;> try omega) | (refine Ru.go ?_; intro K hK; simp [go_sem, hlt, hfe, encD, encF, w1, w2, w3]; (try simp (disch := omega) only [wx, z_i]); (first | apply hK | refine ⟨by first | omega | (simp [z_f, z_g, hlt, hfe, encD, encF, w1, w2, w3, maxLen, DV.flat, encDf]; first | done | omega), ?_⟩ | refine ⟨hK _ ?_, fun h => ?_⟩ | refine ⟨?_, ?_⟩); all_goals ((try apply hK); clear hK K))
  refine z_j (n - 1) _ (by omega) ⟨k + 1, by omega, rfl⟩ ?_
  simp [go_sem, hs, encD, encDf]
 ·have hke : k = d.fields.length := by omega
  subst hke
  have hbl := boundsF_len d d.fields.length
  repeat' first | refine St.go ?_ | ((with_reducible refine cn ?_ ?_) <;> intro h <;> (try simp at h) <;> try omega) | (refine Ru.go ?_; intro K hK; simp [go_sem, hlt, encD]; (try simp (disch := omega) only [wx, z_i]); (first | apply hK | refine ⟨by first | omega | (simp [z_f, z_g, hlt, encD, maxLen, DV.flat, encDf]; first | done | omega), ?_⟩ | refine ⟨hK _ ?_, fun h => ?_⟩ | refine ⟨?_, ?_⟩); all_goals ((try apply hK); clear hK K))
  refine z_k (fun n e => ∃ k : Nat, k + n = d.equals.length /\ e = [(46, .sv (.one (.int .i64 k))), (45, .sv (.one (.int .i64 d.equals.length))), (44, .sv (.one (.sl (d.equals.map encEq)))), (3, .sv (.one (.ow 3 ((boundsF d d.fields.length ++ d.diffs ++ boundsE (d.equals.take k)).map encDf))))]) d.equals.length _ ⟨0, by simp, rfl⟩ (by simp [go_sem, boundsE]) ?_
  rintro n e ⟨k, hk, rfl⟩
  by_cases hlt2 : k < d.equals.length
  ·have hbe := boundsE_len (d.equals.take k)
   have htk : (d.equals.take k).length <= d.equals.length := by rw [List.length_take]; omega
   have hs := boundsE_succ hlt2
   repeat' first | refine St.go ?_ | ((with_reducible refine cn ?_ ?_) <;> intro h <;> (try simp at h) <;> try omega) | (refine Ru.go ?_; intro K hK; simp [go_sem, hlt2, encEq]; (try simp (disch := omega) only [wx, z_i]); (first | apply hK | refine ⟨by first | omega | (simp [z_f, z_g, hlt2, encEq, maxLen, DV.flat, encDf]; first | done | omega), ?_⟩ | refine ⟨hK _ ?_, fun h => ?_⟩ | refine ⟨?_, ?_⟩); all_goals ((try apply hK); clear hK K))
   refine z_j (n - 1) _ (by omega) ⟨k + 1, by omega, rfl⟩ ?_
   simp [go_sem, hs, encDf]
  ·have hkl : d.equals.take k = d.equals := List.take_of_length_le (by omega)
   refine wX (aN hlt2 hkl) ?_
   simp [go_sem, boundsOf]
set_option maxHeartbeats 64000000
theorem validD_decl {l : List Dcl} (hv : validD l = true) {i : Nat} (hi : i < l.length) : isPath l[i].name = true /\ l[i].fields.length <= 4 /\ l[i].first = ((allF (l.take i)).length : Int) /\ okFields l[i].fields = true /\ okGuard (allF l) l[i] = true := by
 simp only [validD, Bool.and_eq_true, List.all_eq_true, List.mem_range] at hv
 have h := hv.2 i hi
 rw [okDeclAt_get hi] at h
 simp only [Bool.and_eq_true, decide_eq_true_eq] at h
 exact ⟨h.1.1.1.1.1, h.1.1.1.1.2, h.1.1.1.2, h.1.2, h.2⟩
theorem validD_24 {l : List Dcl} (hv : validD l = true) : (allF l).length <= 24 := by
 simp only [validD, Bool.and_eq_true, decide_eq_true_eq] at hv
 exact hv.1.2
theorem okFields_sort {fs : List Fld} (h : okFields fs = true) : ∀ f ∈ fs, goodSort f = true := by
 intro f hf
 obtain ⟨k, hk, rfl⟩ := List.mem_iff_getElem.1 hf
 simp only [okFields, List.all_eq_true, List.mem_range] at h
 have := h k hk
 rw [okFieldAt_get hk] at this
 simp only [Bool.and_eq_true] at this
 exact this.1.2
theorem goodSort_lo {f : Fld} (h : goodSort f = true) : -1000 <= f.lo /\ f.lo <= 1000 /\ f.hi <= 1000 /\ f.lo <= f.hi := by
 unfold goodSort at h
 split at h
 ·simp at h; omega
 ·split at h
  ·simp at h; omega
  ·cases h
def boundsR (l : List Dcl) (i : Int) : RV := if 0 <= i /\ i < l.length /\ validD l = true then .tup [.one (.ow 3 (((l[i.toNat]?.map boundsOf).getD []).map encDf)), .one (.int .i64 0)] else .tup [.one (.ow 3 []), .one (.int .i64 1)]
theorem f102 (l : List Dcl) (i : Int) (hl : l.length <= 1000) (hf : ∀ d ∈ l, d.fields.length <= 100000) : Impl Tryz.prog 102 [.one (.sl (l.map encD)), .one (.int .i64 i)] (boundsR l i) := by
 refine impl_v ?_
 have f112s := f112 l hl hf
 by_cases h0 : i < 0
 ·have hr : boundsR l i = .tup [.one (.ow 3 []), .one (.int .i64 1)] := by
   unfold boundsR
   rw [if_neg (by omega)]
  refine wX h0 ?_
  simp [go_sem, hr]
 ·by_cases hin : i < l.length
  ·have hin' : ¬ (l.length : Int) <= i := by omega
   cases hv : validD l with
   | false =>
     have hr : boundsR l i = .tup [.one (.ow 3 []), .one (.int .i64 1)] := by
      unfold boundsR
      rw [if_neg (by rw [hv]; simp)]
     rw [hv] at f112s
     refine wV (aN h0 hin') f112s ?_
     simp [go_sem, hr]
   | true =>
     obtain ⟨k, rfl⟩ : ∃ k : Nat, i = k := ⟨i.toNat, by omega⟩
     have hk : k < l.length := by omega
     obtain ⟨h1, h2, h3, h4, h5⟩ := validD_decl hv hk
     have h24 := validD_24 hv
     have hle : (allF (l.take k)).length <= (allF l).length := by
      rw [allF_split l k, List.length_append]; omega
     simp only [okGuard, Bool.and_eq_true, decide_eq_true_eq] at h5
     have f121s := f121 l[k] (by omega) (by omega) (by omega) (by omega) (fun f hf => by have := goodSort_lo (okFields_sort h4 f hf); omega)
     have hr : boundsR l k = .tup [.one (.ow 3 ((boundsOf l[k]).map encDf)), .one (.int .i64 0)] := by
      unfold boundsR
      rw [if_pos ⟨by omega, by omega, hv⟩]
      simp [hk]
     rw [hv] at f112s
     refine wV (aN h0 <| aN hin' <| aN hk encD.eq_1) (aN f112s f121s) ?_
     simp [go_sem, hr]
  ·have hin' : (l.length : Int) <= i := by omega
   have hr : boundsR l i = .tup [.one (.ow 3 []), .one (.int .i64 1)] := by
    unfold boundsR
    rw [if_neg (by omega)]
   refine wX (aN h0 hin') ?_
   simp [go_sem, hr]
theorem f69 (l : List Dcl) (hl : l.length <= 1000) (hf : ∀ d ∈ l, d.fields.length <= 100000) : Impl Tryz.prog 69 [.one (.sl (l.map encD))] (.one (.one (.bool (validD l)))) := by
 refine impl_v ?_
 by_cases h0 : l.length = 0
 ·have hnil : l = [] := List.eq_nil_of_length_eq_zero h0
  have hv : validD l = true := by rw [hnil]; rfl
  refine wX h0 ?_
  simp [go_sem, hv]
 ·have f102s := f102 l 0 hl hf
  unfold boundsR at f102s
  cases hv : validD l with
  | true =>
    rw [if_pos ⟨by omega, by omega, hv⟩] at f102s
    refine wV h0 f102s ?_
    simp [go_sem]
  | false =>
    rw [if_neg (by rw [hv]; simp)] at f102s
    refine wV h0 f102s ?_
    simp [go_sem]
def okRoleAt (rs : List ByteArray) (k : Nat) : Bool := match rs[k]? with
 | some s => isWord s && !hasS (rs.take k) s
 | none => true
def okRoles (rs : List ByteArray) : Bool := (List.range rs.length).all (okRoleAt rs)
theorem okRoleAt_get {rs : List ByteArray} {k : Nat} (h : k < rs.length) : okRoleAt rs k = (isWord rs[k] && !hasS (rs.take k) rs[k]) := by
 unfold okRoleAt
 rw [List.getElem?_eq_getElem h]
def named (g : Glob) : Bool := isWord g.name && decide (1 <= g.roles.length) && decide (g.roles.length <= 6) && okRoles g.roles
theorem f67 (g : Glob) (hr : g.roles.length <= 1000000) : Impl Tryz.prog 67 [.ag (encG g)] (.one (.one (.bool (named g)))) := by
 refine impl_v ?_
 have f100s := f100 g.name
 cases hw : isWord g.name with
 | false =>
   have hv : named g = false := by simp [named, hw]
   rw [hw] at f100s
   refine wV encG.eq_1 f100s ?_
   simp [go_sem, hv]
 | true =>
   rw [hw] at f100s
   by_cases h1 : 1 <= g.roles.length
   ·have h1' : ¬ (g.roles.length : Int) < 1 := by omega
    by_cases h6 : g.roles.length <= 6
    ·have h6' : ¬ (6 : Int) < (g.roles.length : Int) := by omega
     refine wV (aN encG.eq_1 <| aN h1' h6') f100s ?_
     refine z_k (fun n e => ∃ k : Nat, k + n = g.roles.length /\ (List.range k).all (okRoleAt g.roles) = true /\ e = [(24, .sv (.one (.int .i64 k))), (23, .sv (.one (.int .i64 g.roles.length))), (22, .sv (.one (.sl (g.roles.map encS)))), (1, .sv (.one (.bx (encG g))))]) g.roles.length _ ⟨0, by simp, by simp, rfl⟩ (by simp [go_sem, encG]) ?_
     rintro n e ⟨k, hk, hall, rfl⟩
     by_cases hlt : k < g.roles.length
     ·have hok := okRoleAt_get hlt
      have hbad : okRoleAt g.roles k = false -> named g = false := fun h => by simp [named, okRoles, range_all_no hlt h]
      obtain ⟨s, hs⟩ : ∃ s, g.roles[k] = s := ⟨_, rfl⟩
      rw [hs] at hok
      have c1 := f100 s
      have c2 := f101 (g.roles.take k) s (Nat.le_trans (List.length_take_le _ _) (by omega))
      rw [List.map_take] at c2
      cases hws : isWord s with
      | false =>
        have hv := hbad (by rw [hok, hws]; rfl)
        rw [hws] at c1
        refine wV (aN hlt <| aN hs <| aN encG.eq_1 encS.eq_1) c1 ?_
        simp [go_sem, hv]
      | true =>
        rw [hws] at c1
        cases hh : hasS (g.roles.take k) s with
        | true =>
          have hv := hbad (by rw [hok, hh]; simp)
          rw [hh] at c2
          refine wV (aN hlt <| aN hs <| aN encG.eq_1 encS.eq_1) (aN c1 c2) ?_
          simp [go_sem, hv]
        | false =>
          have ho : okRoleAt g.roles k = true := by rw [hok, hws, hh]; rfl
          rw [hh] at c2
          refine wV (aN hlt <| aN hs <| aN encG.eq_1 encS.eq_1) (aN c1 c2) ?_
          refine z_j (n - 1) _ (by omega) ⟨k + 1, by omega, ?_, rfl⟩ ?_
          ·rw [range_succ_all, hall, ho]; rfl
          ·simp [go_sem, encG]
     ·have hke : k = g.roles.length := by omega
      rw [hke] at hall
      have hv : named g = true := by simp [named, hw, h1, h6, okRoles, hall]
      refine wX hlt ?_
      simp [go_sem, hv]
    ·have h6' : (6 : Int) < (g.roles.length : Int) := by omega
     have hv : named g = false := by simp [named, h6]
     refine wV (aN encG.eq_1 <| aN h1' h6') f100s ?_
     simp [go_sem, hv]
   ·have h1' : (g.roles.length : Int) < 1 := by omega
    have hv : named g = false := by simp [named, h1]
    refine wV (aN encG.eq_1 h1') f100s ?_
    simp [go_sem, hv]
set_option maxHeartbeats 64000000
structure Small (g : Glob) : Prop where
 roles : g.roles.length <= 1000
 decls : g.decls.length <= 1000
 fields : ∀ d ∈ g.decls, d.fields.length <= 100000
 parts : ∀ d ∈ g.decls, d.diffs.length <= 1000000 /\ d.equals.length <= 1000000 /\ d.name.size <= 1000000000000000
 edges : g.edges.length <= 1000
 timeouts : g.timeouts.length <= 1000
def stateB (g : Glob) (s : Int) : Bool := decide (0 <= s) && decide (s < g.states)
def okEdge (g : Glob) (x : Edg) : Bool := stateB g x.from_ && stateB g x.to && decide (0 <= x.act.from_) && decide (x.act.from_ < g.roles.length) && decide (0 <= x.act.to) && decide (x.act.to < g.roles.length) && decide (x.act.from_ ≠ x.act.to) && decide (0 <= x.act.label) && decide (x.act.label < g.decls.length)
def numbered (g : Glob) : Bool := decide (1 <= g.states) && decide (g.states <= 200) && stateB g g.start && stateB g g.end_ && decide (g.edges.length <= 400) && g.edges.all (okEdge g)
theorem numbered_edge {g : Glob} {k : Nat} (h : k < g.edges.length) (hb : okEdge g g.edges[k] = false) : numbered g = false := by simp [numbered, all_no h hb]
theorem f68 (g : Glob) (hs : Small g) : Impl Tryz.prog 68 [.ag (encG g)] (.one (.one (.bool (numbered g)))) := by
 obtain ⟨s1, s2, s3, s4, s5, s6⟩ := hs
 refine impl_intro z68.f z68.b rfl z68.r z68.n z68.t z68.d (by simp) fun hs => ?_
 clear hs s3 s4
 simp only [slotsOf]
 conv => arg 2; reduce
 repeat' first | refine St.go ?_ | ((with_reducible refine cn ?_ ?_) <;> intro h <;> (try simp at h) <;> try omega) | (refine Ru.go ?_; intro K hK; simp [go_sem, encG]; (try simp (disch := omega) only [wx, z_i]); (first | apply hK | refine ⟨by first | omega | (simp [z_f, z_g, encG]; first | done | omega), ?_⟩ | refine ⟨hK _ ?_, fun h => ?_⟩ | refine ⟨?_, ?_⟩); all_goals ((try apply hK); clear hK K))
 ·have hv : numbered g = false := by
   cases hb : numbered g with
   | false => rfl
   | true =>
     simp only [numbered, stateB, Bool.and_eq_true, decide_eq_true_eq] at hb
     omega
  simp [go_sem, hv]
 ·refine z_k (fun n e => ∃ k : Nat, k + n = g.edges.length /\ (g.edges.take k).all (okEdge g) = true /\ e = [(41, .sv (.one (.int .i64 k))), (40, .sv (.one (.int .i64 g.edges.length))), (39, .sv (.one (.sl (g.edges.map encEd)))), (1, .sv (.one (.bx (encG g))))]) g.edges.length _ ⟨0, by simp, by simp, rfl⟩ (by simp [go_sem, encG]) ?_
  rintro n e ⟨k, hk, hall, rfl⟩
  by_cases hlt : k < g.edges.length
  ·obtain ⟨x, hx⟩ : ∃ x, g.edges[k] = x := ⟨_, rfl⟩
   have hbad := numbered_edge hlt
   rw [hx] at hbad
   repeat' first | refine St.go ?_ | ((with_reducible refine cn ?_ ?_) <;> intro h <;> (try simp at h) <;> try omega) | (refine Ru.go ?_; intro K hK; simp [go_sem, hlt, hx, encG, encEd]; (try simp (disch := omega) only [wx, z_i]); (first | apply hK | refine ⟨by first | omega | (simp [z_f, z_g, hlt, hx, encG, encEd]; first | done | omega), ?_⟩ | refine ⟨hK _ ?_, fun h => ?_⟩ | refine ⟨?_, ?_⟩); all_goals ((try apply hK); clear hK K))
   ·have hb : okEdge g x = false := by
     cases hb : okEdge g x with
     | false => rfl
     | true =>
       simp only [okEdge, stateB, Bool.and_eq_true, decide_eq_true_eq] at hb
       omega
    have hv := hbad hb
    simp [go_sem, hv]
   ·have hb : okEdge g x = true := by
     simp only [okEdge, stateB, Bool.and_eq_true, decide_eq_true_eq]
     omega
    refine z_j (n - 1) _ (by omega) ⟨k + 1, by omega, ?_, rfl⟩ ?_
    ·rw [all_succ hlt, hall, hx, hb]; rfl
    ·simp [go_sem, encG]
  ·have hkl : g.edges.take k = g.edges := List.take_of_length_le (by omega)
   rw [hkl] at hall
   have hv : numbered g = true := by
    simp only [numbered, stateB, Bool.and_eq_true, decide_eq_true_eq]
    refine ⟨⟨⟨⟨⟨?_, ?_⟩, ?_⟩, ?_⟩, ?_⟩, hall⟩ <;> omega
   refine wX hlt ?_
   simp [go_sem, hv]
theorem f110 (g : Glob) (s : Int) : Impl Tryz.prog 110 [.ag (encG g), .one (.int .i64 s)] (.one (.one (.bool (stateB g s)))) := by
 refine impl_v ?_
 refine wX encG.eq_1 ?_
 simp [go_sem, stateB]
theorem f83 (g : Glob) (hs : Small g) : Impl Tryz.prog 83 [.ag (encG g)] (.one (.one (.bool (numbered g)))) := by
 obtain ⟨s1, s2, s3, s4, s5, s6⟩ := hs
 refine impl_intro z83.f z83.b rfl z83.r z83.n z83.t z83.d (by simp) fun hs => ?_
 clear hs s3 s4
 simp only [slotsOf]
 conv => arg 2; reduce
 have f110s := f110 g
 simp only [encG] at f110s
 refine wX encG.eq_1 ?_
 refine z_k (fun n e => ∃ k : Nat, k + n = g.edges.length /\ (g.edges.take k).all (okEdge g) = true /\ e = [(3, .sv (.one (.int .i64 k))), (1, .sv (.one (.bx (encG g))))]) g.edges.length _ ⟨0, by simp, by simp, rfl⟩ (by simp [go_sem, encG]) ?_
 rintro n e ⟨k, hk, hall, rfl⟩
 by_cases hlt : k < g.edges.length
 ·obtain ⟨x, hx⟩ : ∃ x, g.edges[k] = x := ⟨_, rfl⟩
  have hbad := numbered_edge hlt
  rw [hx] at hbad
  have c1 := f110s x.from_
  have c2 := f110s x.to
  cases h1 : stateB g x.from_ with
  | false =>
    have hv := hbad (by simp [okEdge, h1])
    rw [h1] at c1
    refine wV (aN hlt <| aN hx <| aN encG.eq_1 encEd.eq_1) c1 ?_
    simp [go_sem, hv]
  | true =>
    rw [h1] at c1
    cases h2 : stateB g x.to with
    | false =>
      have hv := hbad (by simp [okEdge, h2])
      rw [h2] at c2
      refine wV (aN hlt <| aN hx <| aN encG.eq_1 encEd.eq_1) (aN c1 c2) ?_
      simp [go_sem, hv]
    | true =>
      rw [h2] at c2
      repeat' first | refine St.go ?_ | ((with_reducible refine cn ?_ ?_) <;> intro h <;> (try simp at h) <;> try omega) | (refine Ru.go ?_; intro K hK; simp [go_sem, hlt, hx, encG, encEd]; (try simp (disch := omega) only [wx, z_i]); (first | apply hK | ((first | ((try refine .inl ?_); refine ⟨_, by (try intro hc); (repeat' first | exact c1 | exact c2 | exact hc | refine And.intro ?_ ?_ | simp [go_sem, hlt, hx, encG, encEd]); first | done | omega, ?_⟩) | refine .inr (.inl ⟨_, by (try intro hc); (repeat' first | exact c1 | exact c2 | exact hc | refine And.intro ?_ ?_ | simp [go_sem, hlt, hx, encG, encEd]); first | done | omega, ?_⟩) | refine .inr (.inr ⟨_, by (try intro hc); (repeat' first | exact c1 | exact c2 | exact hc | refine And.intro ?_ ?_ | simp [go_sem, hlt, hx, encG, encEd]); first | done | omega, ?_⟩)); first | apply hK | (refine ⟨by simp [go_sem, hlt, hx, encG, encEd], ?_⟩; first | apply hK | refine ⟨by simp [go_sem, hlt, hx, encG, encEd], hK _ _ ?_⟩)) | refine ⟨.one (.one (.bool false)), by simp [go_sem, hlt, hx, encG, encEd], hK _ _ ?_⟩ | refine ⟨by first | omega | (simp [z_f, z_g, hlt, hx, encG, encEd]; first | done | omega), ?_⟩ | refine ⟨hK _ ?_, fun h => ?_⟩ | refine ⟨?_, ?_⟩); all_goals ((try apply hK); clear hK K))
      ·have hb : okEdge g x = false := by
        cases hb : okEdge g x with
        | false => rfl
        | true =>
          simp only [okEdge, Bool.and_eq_true, decide_eq_true_eq] at hb
          omega
       have hv := hbad hb
       simp [go_sem, hv]
      ·have hb : okEdge g x = true := by
        simp only [okEdge, h1, h2, Bool.and_eq_true, decide_eq_true_eq, true_and]
        omega
       refine z_j (n - 1) _ (by omega) ⟨k + 1, by omega, ?_, rfl⟩ ?_
       ·rw [all_succ hlt, hall, hx, hb]; rfl
       ·simp [go_sem, encG]
 ·have hkl : g.edges.take k = g.edges := List.take_of_length_le (by omega)
  rw [hkl] at hall
  have c1 := f110s g.start
  have c2 := f110s g.end_
  by_cases h1 : 1 <= g.states
  ·by_cases h2 : g.states <= 200
   ·cases h3 : stateB g g.start with
    | false =>
      have hv : numbered g = false := by simp [numbered, h3]
      rw [h3] at c1
      refine wV (aN hlt <| aN h1 <| aN h2 encG.eq_1) c1 ?_
      simp [go_sem, hv]
    | true =>
      rw [h3] at c1
      cases h4 : stateB g g.end_ with
      | false =>
        have hv : numbered g = false := by simp [numbered, h4]
        rw [h4] at c2
        refine wV (aN hlt <| aN h1 <| aN h2 encG.eq_1) (aN c1 c2) ?_
        simp [go_sem, hv]
      | true =>
        have hv : numbered g = decide (g.edges.length <= 400) := by simp [numbered, h1, h2, h3, h4, hall]
        rw [h4] at c2
        refine wV (aN hlt <| aN h1 <| aN h2 encG.eq_1) (aN c1 c2) ?_
        simp [go_sem, hv]
        omega
   ·have hv : numbered g = false := by simp [numbered, h2]
    refine wX (aN hlt <| aN h1 <| aN h2 encG.eq_1) ?_
    simp [go_sem, hv]
  ·have hv : numbered g = false := by simp [numbered, h1]
   refine wX (aN hlt <| aN h1 encG.eq_1) ?_
   simp [go_sem, hv]
theorem f108 (l : List ByteArray) (x : ByteArray) (hl : l.length <= 1000000) : Impl Tryz.prog 108 [.one (.sl (l.map encS)), .one (.str x)] (.one (.one (.int .i64 (firstB (fun y => y == x) l)))) := by
 refine impl_v ?_
 refine wN ?_
 refine z_k (fun n e => ∃ k : Nat, k + n = l.length /\ (l.take k).any (fun y => y == x) = false /\ e = [(5, .sv (.one (.int .i64 k))), (1, .sv (.one (.str x))), (0, .sv (.one (.sl (l.map encS))))]) l.length _ ⟨0, by simp, by simp, rfl⟩ (by simp [go_sem]) ?_
 rintro n e ⟨k, hk, h0, rfl⟩
 by_cases hlt : k < l.length
 ·cases hx : (l[k] == x) with
  | true =>
    have hf := firstB_at (p := fun y => y == x) hlt h0 hx
    refine wX (aN hlt <| aN encS.eq_1 hx) ?_
    simp [go_sem, hf]
  | false =>
    refine wX (aN hlt <| aN encS.eq_1 hx) ?_
    refine z_j (n - 1) _ (by omega) ⟨k + 1, by omega, ?_, rfl⟩ ?_
    ·rw [any_succ hlt, h0, hx]; rfl
    ·simp [go_sem]
 ·have hkl : l.take k = l := List.take_of_length_le (by omega)
  rw [hkl] at h0
  have hf := firstB_none h0
  refine wX hlt ?_
  simp [go_sem, hf]
set_option maxHeartbeats 64000000
def actEq (a b : Inter) : Bool := a.from_ == b.from_ && a.to == b.to && a.label == b.label
def bad1 (same : Bool) (x y : Edg) : Bool := !same && x.from_ == y.from_ && (actEq x.act y.act || x.act.from_ != y.act.from_ || x.again)
def bad2 (x y : Edg) : Bool := x.again && y.to == x.from_ && (x.act.from_ != y.act.from_ || x.act.label != y.act.label)
def okPr (es : List Edg) (i : Nat) (x : Edg) (k : Nat) : Bool := match es[k]? with
 | some y => !bad1 (i == k) x y && !bad2 x y
 | none => true
def okRow (es : List Edg) (i : Nat) (x : Edg) : Bool := (List.range es.length).all (okPr es i x)
def ordAt (g : Glob) (e : Bool) (i : Nat) : Bool := match g.edges[i]? with
 | some x => !(e && x.from_ == g.end_) && !(x.again && x.from_ == g.start) && okRow g.edges i x
 | none => true
def orderedB (g : Glob) (e : Bool) : Bool := (List.range g.edges.length).all (ordAt g e)
theorem ordAt_get {g : Glob} {e : Bool} {i : Nat} (h : i < g.edges.length) : ordAt g e i = (!(e && g.edges[i].from_ == g.end_) && !(g.edges[i].again && g.edges[i].from_ == g.start) && okRow g.edges i g.edges[i]) := by
 unfold ordAt
 rw [List.getElem?_eq_getElem h]
theorem f70 (g : Glob) (hs : Small g) : Impl Tryz.prog 70 [.ag (encG g)] (.one (.one (.bool (orderedB g true)))) := by
 obtain ⟨s1, s2, s3, s4, s5, s6⟩ := hs
 refine impl_intro z70.f z70.b rfl z70.r z70.n z70.t z70.d (by simp) fun hs => ?_
 clear hs s3 s4
 simp only [slotsOf]
 conv => arg 2; reduce
 refine wX encG.eq_1 ?_
 refine z_k (fun n e => ∃ i : Nat, i + n = g.edges.length /\ (List.range i).all (ordAt g true) = true /\ e = [(10, .sv (.one (.int .i64 i))), (9, .sv (.one (.int .i64 g.edges.length))), (8, .sv (.one (.sl (g.edges.map encEd)))), (1, .sv (.one (.bx (encG g))))]) g.edges.length _ ⟨0, by simp, by simp, rfl⟩ (by simp [go_sem, encG]) ?_
 rintro n e ⟨i, hi, hall, rfl⟩
 by_cases hlt : i < g.edges.length
 ·have hok := ordAt_get (e := true) hlt
  have hbad : ordAt g true i = false -> orderedB g true = false := fun h => range_all_no hlt h
  obtain ⟨x, hx⟩ : ∃ x, g.edges[i] = x := ⟨_, rfl⟩
  rw [hx] at hok
  cases hc : (x.from_ == g.end_) || (x.again && x.from_ == g.start) with
  | true =>
    have hv := hbad (by rw [hok]; cases h1 : (x.from_ == g.end_) <;> cases h2 : (x.again && x.from_ == g.start) <;> simp_all)
    repeat' first | refine St.go ?_ | ((with_reducible refine cn ?_ ?_) <;> intro h <;> (try simp at h) <;> try omega) | (refine Ru.go ?_; intro K hK; simp [go_sem, hlt, hx, encG, encEd, hc]; (try simp (disch := omega) only [wx, z_i]); (first | apply hK | refine ⟨by first | omega | (simp [z_f, z_g, hlt, hx, encG, encEd, hc]; first | done | omega), ?_⟩ | refine ⟨hK _ ?_, fun h => ?_⟩ | refine ⟨?_, ?_⟩); all_goals ((try apply hK); clear hK K))
    ·intro a; simp [a]
    ·simp [go_sem, hv]
  | false =>
    repeat' first | refine St.go ?_ | ((with_reducible refine cn ?_ ?_) <;> intro h <;> (try simp at h) <;> try omega) | (refine Ru.go ?_; intro K hK; simp [go_sem, hlt, hx, encG, encEd, hc]; (try simp (disch := omega) only [wx, z_i]); (first | apply hK | refine ⟨by first | omega | (simp [z_f, z_g, hlt, hx, encG, encEd, hc]; first | done | omega), ?_⟩ | refine ⟨hK _ ?_, fun h => ?_⟩ | refine ⟨?_, ?_⟩); all_goals ((try apply hK); clear hK K))
    ·intro a; simp [a]
    ·refine z_k (fun q e => ∃ k : Nat, k + q = g.edges.length /\ (List.range k).all (okPr g.edges i x) = true /\ e = [(34, .sv (.one (.int .i64 k))), (33, .sv (.one (.int .i64 g.edges.length))), (32, .sv (.one (.sl (g.edges.map encEd)))), (4, .sv (.one (.bx (encEd x)))), (3, .sv (.one (.int .i64 i))), (10, .sv (.one (.int .i64 i))), (9, .sv (.one (.int .i64 g.edges.length))), (8, .sv (.one (.sl (g.edges.map encEd)))), (1, .sv (.one (.bx (encG g))))]) g.edges.length _ ⟨0, by simp, by simp, rfl⟩ (by simp [go_sem, encG, encEd]) ?_
     rintro q e ⟨k, hk, hrow, rfl⟩
     by_cases hkl : k < g.edges.length
     ·obtain ⟨y, hy⟩ : ∃ y, g.edges[k] = y := ⟨_, rfl⟩
      have hpr : okPr g.edges i x k = (!bad1 (i == k) x y && !bad2 x y) := by
       unfold okPr
       rw [List.getElem?_eq_getElem hkl, hy]
      have hpbad : okPr g.edges i x k = false -> orderedB g true = false := fun h => hbad (by rw [hok]; simp [okRow, range_all_no hkl h])
      have hik : ((i : Int) = (k : Int)) ↔ i = k := by omega
      repeat' first | refine St.go ?_ | ((with_reducible refine cn ?_ ?_) <;> intro h <;> (try simp at h) <;> try omega) | (refine Ru.go ?_; intro K hK; simp [go_sem, hkl, hy, encG, encEd]; (try simp (disch := omega) only [wx, z_i]); (first | apply hK | refine ⟨by first | omega | (simp [z_f, z_g, hkl, hy, encG, encEd]; first | done | omega), ?_⟩ | refine ⟨hK _ ?_, fun h => ?_⟩ | refine ⟨?_, ?_⟩); all_goals ((try apply hK); clear hK K))
      ·have hb : bad1 (i == k) x y = true := by
        simp only [hik] at h
        simp [bad1, actEq]
        grind
       have hv := hpbad (by rw [hpr, hb]; rfl)
       simp [go_sem, hv]
      ·grind
      ·have hb : bad2 x y = true := by
        simp [bad2]
        grind
       have hv := hpbad (by rw [hpr, hb]; simp)
       simp [go_sem, hv]
      ·rename_i h'
       have hb1 : bad1 (i == k) x y = false := by
        simp only [hik] at h'
        simp [bad1, actEq]
        grind
       have hb2 : bad2 x y = false := by
        simp [bad2]
        grind
       refine z_j (q - 1) _ (by omega) ⟨k + 1, by omega, ?_, rfl⟩ ?_
       ·rw [range_succ_all, hrow, hpr, hb1, hb2]; rfl
       ·simp [go_sem, encG, encEd]
     ·have hke : k = g.edges.length := by omega
      rw [hke] at hrow
      have ho : ordAt g true i = true := by
       rw [hok]
       have : okRow g.edges i x = true := hrow
       rw [this]
       simp at hc ⊢
       grind
      refine wX hkl ?_
      refine z_j (n - 1) _ (by omega) ⟨i + 1, by omega, ?_, rfl⟩ ?_
      ·rw [range_succ_all, hall, ho]; rfl
      ·simp [go_sem, encG]
 ·have hie : i = g.edges.length := by omega
  rw [hie] at hall
  have hv : orderedB g true = true := hall
  refine wX hlt ?_
  simp [go_sem, hv]
set_option maxHeartbeats 64000000
theorem f103 (l : List Int) (x : Int) (hl : l.length <= 1000000) : Impl Tryz.prog 103 [.one (.sl (l.map encN)), .one (.int .i64 x)] (.one (.one (.int .i64 (firstB (fun y => x == y) l)))) := by
 refine impl_v ?_
 refine wN ?_
 refine z_k (fun n e => ∃ k : Nat, k + n = l.length /\ (l.take k).any (fun y => x == y) = false /\ e = [(8, .sv (.one (.int .i64 k))), (7, .sv (.one (.int .i64 l.length))), (1, .sv (.one (.int .i64 x))), (0, .sv (.one (.sl (l.map encN))))]) l.length _ ⟨0, by simp, by simp, rfl⟩ (by simp [go_sem]) ?_
 rintro n e ⟨k, hk, h0, rfl⟩
 by_cases hlt : k < l.length
 ·cases hx : (x == l[k]) with
  | true =>
    have hf := firstB_at (p := fun y => x == y) hlt h0 hx
    refine wX (aN hlt <| aN encN.eq_1 hx) ?_
    simp [go_sem, hf]
  | false =>
    refine wX (aN hlt <| aN encN.eq_1 hx) ?_
    refine z_j (n - 1) _ (by omega) ⟨k + 1, by omega, ?_, rfl⟩ ?_
    ·rw [any_succ hlt, h0, hx]; rfl
    ·simp [go_sem]
 ·have hkl : l.take k = l := List.take_of_length_le (by omega)
  rw [hkl] at h0
  have hf := firstB_none h0
  refine wX hlt ?_
  simp [go_sem, hf]
theorem f72 (l : List Int) (x : Int) (hl : l.length <= 1000000) : Impl Tryz.prog 72 [.one (.sl (l.map encN)), .one (.int .i64 x)] (.one (.one (.bool (l.any (fun y => x == y))))) := by
 refine impl_v ?_
 have hf := firstB_any (fun y => x == y) l
 refine wC (f103 l x hl) ?_
 simp [go_sem, hf]
def nextE : List Edg -> Int -> Inter -> Option Int
 | [], _, _ => none
 | x :: es, s, a => if x.from_ = s /\ actEq x.act a = true then some x.to else nextE es s a
set_option maxHeartbeats 64000000
theorem numbered_facts {g : Glob} (h : numbered g = true) : 1 <= g.states /\ g.states <= 200 /\ 0 <= g.start /\ g.start < g.states /\ 0 <= g.end_ /\ g.end_ < g.states /\ ∀ x ∈ g.edges, okEdge g x = true := by
 simp only [numbered, stateB, Bool.and_eq_true, decide_eq_true_eq, List.all_eq_true] at h
 obtain ⟨⟨⟨⟨⟨h1, h2⟩, h3⟩, h4⟩, h5⟩, h6⟩ := h
 exact ⟨h1, h2, h3.1, h3.2, h4.1, h4.2, h6⟩
theorem okEdge_facts {g : Glob} {x : Edg} (h : okEdge g x = true) : 0 <= x.from_ /\ x.from_ < g.states /\ 0 <= x.to /\ x.to < g.states := by
 simp only [okEdge, stateB, Bool.and_eq_true, decide_eq_true_eq] at h
 omega
def endsStep (n : Nat) (D : List Int) (x : Edg) : List Int := if D[x.to.toNat]?.getD 0 = n /\ D[x.from_.toNat]?.getD 0 < 0 then D.set x.from_.toNat (n + 1) else D
def endsRound (es : List Edg) (D : List Int) (n : Nat) : List Int := es.foldl (endsStep n) D
def endsOf (g : Glob) : List Int := (List.range g.states.toNat).foldl (endsRound g.edges) ((List.replicate g.states.toNat (-1)).set g.end_.toNat 0)
theorem endsStep_len (n : Nat) (D : List Int) (x : Edg) : (endsStep n D x).length = D.length := by
 unfold endsStep
 split <;> simp
theorem foldl_len {α : Type} (f : List Int -> α -> List Int) (hf : ∀ D a, (f D a).length = D.length) : ∀ (l : List α) (D : List Int), (l.foldl f D).length = D.length
 | [], D => rfl
 | a :: l, D => by rw [List.foldl_cons, foldl_len f hf l, hf]
theorem endsRound_len (es : List Edg) (D : List Int) (n : Nat) : (endsRound es D n).length = D.length := foldl_len _ (fun D x => endsStep_len n D x) es D
theorem foldl_take {α β : Type} (f : β -> α -> β) (b : β) {l : List α} {k : Nat} (h : k < l.length) : (l.take (k + 1)).foldl f b = f ((l.take k).foldl f b) l[k] := by
 rw [List.take_succ_eq_append_getElem h, List.foldl_append]
 rfl
theorem foldl_range {β : Type} (f : β -> Nat -> β) (b : β) (k : Nat) : (List.range (k + 1)).foldl f b = f ((List.range k).foldl f b) k := by
 rw [List.range_succ, List.foldl_append]
 rfl
def negTo (N k : Nat) : List Int := List.replicate k (-1) ++ List.replicate (N - k) 0
theorem negTo_len {N k : Nat} (h : k <= N) : (negTo N k).length = N := by simp [negTo]; omega
theorem negTo_full (N : Nat) : negTo N N = List.replicate N (-1) := by simp [negTo]
theorem negTo_set {N k : Nat} (h : k < N) : (negTo N k).set k (-1) = negTo N (k + 1) := by
 unfold negTo
 rw [show N - k = (N - (k + 1)) + 1 by omega, List.replicate_succ, List.set_append_right _ _ (by simp)]
 simp [List.replicate_succ', List.append_assoc]
theorem f111 (g : Glob) (hs : Small g) (hn : numbered g = true) : Impl Tryz.prog 111 [.ag (encG g)] (.one (.one (.ow 1 ((endsOf g).map encN)))) := by
 obtain ⟨s1, s2, s3, s4, s5, s6⟩ := hs
 obtain ⟨n1, n2, n3, n4, n5, n6, n7⟩ := numbered_facts hn
 refine impl_intro z111.f z111.b rfl z111.r z111.n z111.t z111.d (by simp) fun hs => ?_
 clear hs s3 s4
 simp only [slotsOf]
 conv => arg 2; reduce
 obtain ⟨N, hN⟩ : ∃ N : Nat, g.states = N := ⟨g.states.toNat, by omega⟩
 obtain ⟨E, hE⟩ : ∃ E : Nat, g.end_ = E := ⟨g.end_.toNat, by omega⟩
 have hN2 : g.states.toNat = N := by omega
 have hE2 : g.end_.toNat = E := by omega
 have hEN : E < N := by omega
 refine wX (aN encG.eq_1 hN) ?_
 refine z_k (fun n e => ∃ k : Nat, k + n = N /\ e = [(4, .sv (.one (.int .i64 k))), (3, .sv (.one (.ow 1 ((negTo N k).map encN)))), (1, .sv (.one (.bx (encG g))))]) N _ ⟨0, by simp, rfl⟩ (by simp [go_sem, encG, encN, hN, negTo]) ?_
 rintro n e ⟨k, hk, rfl⟩
 by_cases hlt : k < N
 ·have hset : ((negTo N k).map encN).set k [.int .i64 (-1)] = (negTo N (k + 1)).map encN := by
   rw [show [DV.int .i64 (-1)] = encN (-1) from rfl, <- List.map_set, negTo_set hlt]
  have hl := negTo_len (show k <= N by omega)
  refine wX (aN hlt <| aN encG.eq_1 <| aN hN <| aN encN.eq_1 hl) ?_
  refine z_j (n - 1) _ (by omega) ⟨k + 1, by omega, rfl⟩ ?_
  simp [go_sem, encG, hN, encN, hset]
 ·have hke : k = N := by omega
  subst hke
  have hl := negTo_len (Nat.le_refl k)
  obtain ⟨D0, hD0⟩ : ∃ D0, D0 = (negTo k k).set E 0 := ⟨_, rfl⟩
  have hset : ((negTo k k).map encN).set E [.int .i64 0] = D0.map encN := by
   rw [show [DV.int .i64 0] = encN 0 from rfl, <- List.map_set, hD0]
  have hD0l : D0.length = k := by rw [hD0, List.length_set, hl]
  have hfin : endsOf g = (List.range k).foldl (endsRound g.edges) D0 := by
   unfold endsOf
   rw [hN2, hE2, hD0, negTo_full]
  refine wX (aN hlt <| aN encG.eq_1 <| aN hN <| aN hE <| aN encN.eq_1 <| aN hl <| aN hEN hset) ?_
  refine z_k (fun n e => ∃ r : Nat, r + n = k /\ e = [(5, .sv (.one (.int .i64 r))), (3, .sv (.one (.ow 1 (((List.range r).foldl (endsRound g.edges) D0).map encN)))), (1, .sv (.one (.bx (encG g))))]) k _ ⟨0, by simp, rfl⟩ (by simp [go_sem, encG, encN, hN, hE]) ?_
  rintro n2 e ⟨r, hr, rfl⟩
  obtain ⟨D1, hD1⟩ : ∃ D1, D1 = (List.range r).foldl (endsRound g.edges) D0 := ⟨_, rfl⟩
  have hD1l : D1.length = k := by rw [hD1, foldl_len _ (endsRound_len g.edges), hD0l]
  rw [<- hD1]
  by_cases hrk : r < k
  ·refine wX (aN hrk <| aN encG.eq_1 hN) ?_
   refine z_k (fun n e => ∃ i : Nat, i + n = g.edges.length /\ e = [(6, .sv (.one (.int .i64 i))), (5, .sv (.one (.int .i64 r))), (3, .sv (.one (.ow 1 (((g.edges.take i).foldl (endsStep r) D1).map encN)))), (1, .sv (.one (.bx (encG g))))]) g.edges.length _ ⟨0, by simp, rfl⟩ (by simp only [List.take_zero, List.foldl_nil]; simp [go_sem, encG, hN]) ?_
   rintro n3 e ⟨i, hi, rfl⟩
   obtain ⟨D, hD⟩ : ∃ D, D = (g.edges.take i).foldl (endsStep r) D1 := ⟨_, rfl⟩
   have hDl : D.length = k := by rw [hD, foldl_len _ (endsStep_len r), hD1l]
   rw [<- hD]
   by_cases hil : i < g.edges.length
   ·obtain ⟨x, hx⟩ : ∃ x, g.edges[i] = x := ⟨_, rfl⟩
    have hxe := okEdge_facts (n7 g.edges[i] (List.getElem_mem hil))
    have hstep := foldl_take (endsStep r) D1 hil
    rw [hx] at hxe hstep
    rw [<- hD] at hstep
    obtain ⟨a, ha⟩ : ∃ a : Nat, x.from_ = a := ⟨x.from_.toNat, by omega⟩
    obtain ⟨b, hb⟩ : ∃ b : Nat, x.to = b := ⟨x.to.toNat, by omega⟩
    have hal : a < D.length := by omega
    have hbl : b < D.length := by omega
    have hst : endsStep r D x = if D[b] = (r : Int) /\ D[a] < 0 then D.set a ((r : Int) + 1) else D := by
     unfold endsStep
     rw [ha, hb]
     simp [hal, hbl]
    by_cases hc1 : D[b] = (r : Int)
    ·by_cases hc2 : D[a] < 0
     ·rw [if_pos ⟨hc1, hc2⟩] at hst
      obtain ⟨D', hD'⟩ : ∃ D', D.set a ((r : Int) + 1) = D' := ⟨_, rfl⟩
      rw [hD'] at hst
      have hset2 : (D.map encN).set a [.int .i64 ((r : Int) + 1)] = D'.map encN := by
       rw [show [DV.int .i64 ((r : Int) + 1)] = encN ((r : Int) + 1) from rfl, <- List.map_set, hD']
      refine wX (aN hil <| aN hx <| aN ha <| aN hb <| aN hal <| aN hbl <| aN hc1 <| aN hc2 <| aN encG.eq_1 <| aN hN <| aN encN.eq_1 <| aN encEd.eq_1 hset2) ?_
      refine z_j (n3 - 1) _ (by omega) ⟨i + 1, by omega, rfl⟩ ?_
      rw [hstep, hst]
      simp [go_sem, encG, hN, encN]
     ·rw [if_neg (fun h => hc2 h.2)] at hst
      refine wX (aN hil <| aN hx <| aN ha <| aN hb <| aN hal <| aN hbl <| aN hc1 <| aN hc2 <| aN encG.eq_1 <| aN hN <| aN encN.eq_1 encEd.eq_1) ?_
      refine z_j (n3 - 1) _ (by omega) ⟨i + 1, by omega, rfl⟩ ?_
      rw [hstep, hst]
      simp [go_sem, encG, hN, encN]
    ·rw [if_neg (fun h => hc1 h.1)] at hst
     repeat' first | refine St.go ?_ | ((with_reducible refine cn ?_ ?_) <;> intro h <;> (try simp at h) <;> try omega) | (refine Ru.go ?_; intro K hK; simp [go_sem, hil, hx, ha, hb, hal, hbl, hc1, encG, hN, encN, encEd]; (try simp (disch := omega) only [wx, z_i]); (first | apply hK | refine ⟨by first | omega | (simp [z_f, z_g, hil, hx, ha, hb, hal, hbl, hc1, encG, hN, encN, encEd]; first | done | omega), ?_⟩ | refine ⟨hK _ ?_, fun h => ?_⟩ | refine ⟨?_, ?_⟩); all_goals ((try apply hK); clear hK K))
     refine z_j (n3 - 1) _ (by omega) ⟨i + 1, by omega, rfl⟩ ?_
     rw [hstep, hst]
     simp [go_sem, encG, hN, encN]
   ·have hie : i = g.edges.length := by omega
    have hrd : D = endsRound g.edges D1 r := by
     rw [hD, hie, List.take_length]
     rfl
    refine wX (aN hil <| aN encG.eq_1 hN) ?_
    refine z_j (n2 - 1) _ (by omega) ⟨r + 1, by omega, rfl⟩ ?_
    rw [foldl_range, <- hD1, <- hrd]
    simp [go_sem, encG, hN]
  ·have hre : r = k := by omega
   refine wX (aN hrk <| aN encG.eq_1 hN) ?_
   rw [hfin, <- hre, <- hD1]
   simp [go_sem]
set_option maxHeartbeats 64000000
def beforeE (es : List Edg) (i k : Nat) : Bool := match es[i]?, es[k]? with
 | some x, some y => if x.act.to ≠ y.act.to then decide (x.act.to < y.act.to) else if x.act.label ≠ y.act.label then decide (x.act.label < y.act.label) else decide (i < k)
 | _, _ => false
theorem f87 (g : Glob) (i k : Nat) (hi : i < g.edges.length) (hk : k < g.edges.length) : Impl Tryz.prog 87 [.ag (encG g), .one (.int .i64 i), .one (.int .i64 k)] (.one (.one (.bool (beforeE g.edges i k)))) := by
 refine impl_v ?_
 obtain ⟨x, hx⟩ : ∃ x, g.edges[i] = x := ⟨_, rfl⟩
 obtain ⟨y, hy⟩ : ∃ y, g.edges[k] = y := ⟨_, rfl⟩
 have hb : beforeE g.edges i k = if x.act.to ≠ y.act.to then decide (x.act.to < y.act.to) else if x.act.label ≠ y.act.label then decide (x.act.label < y.act.label) else decide (i < k) := by
  unfold beforeE
  rw [List.getElem?_eq_getElem hi, List.getElem?_eq_getElem hk, hx, hy]
 by_cases h1 : x.act.to = y.act.to
 ·by_cases h2 : x.act.label = y.act.label
  ·rw [if_neg (fun h => h h1), if_neg (fun h => h h2)] at hb
   refine wX (aN hi <| aN hk <| aN hx <| aN hy <| aN encG.eq_1 <| aN encEd.eq_1 <| aN h1 h2) ?_
   simp [go_sem, hb]
  ·rw [if_neg (fun h => h h1), if_pos h2] at hb
   refine wX (aN hi <| aN hk <| aN hx <| aN hy <| aN encG.eq_1 <| aN encEd.eq_1 <| aN h1 h2) ?_
   simp [go_sem, hb]
 ·rw [if_pos h1] at hb
  refine wX (aN hi <| aN hk <| aN hx <| aN hy <| aN encG.eq_1 <| aN encEd.eq_1 h1) ?_
  simp [go_sem, hb]
def insPos (es : List Edg) (out : List Nat) (i : Nat) : Nat := (out.takeWhile fun j => beforeE es j i).length
def insE (es : List Edg) (out : List Nat) (i : Nat) : List Nat := out.take (insPos es out i) ++ i :: out.drop (insPos es out i)
def edgesStep (es : List Edg) (s : Int) (out : List Nat) (i : Nat) : List Nat := match es[i]? with
 | some x => if x.from_ = s then insE es out i else out
 | none => out
def edgesOf (es : List Edg) (s : Int) : List Nat := (List.range es.length).foldl (edgesStep es s) []
theorem insPos_le (es : List Edg) (out : List Nat) (i : Nat) : insPos es out i <= out.length := by
 unfold insPos
 exact (List.takeWhile_prefix _).length_le
theorem insE_len (es : List Edg) (out : List Nat) (i : Nat) : (insE es out i).length = out.length + 1 := by
 have := insPos_le es out i
 simp [insE]
 omega
theorem insPos_lt {es : List Edg} {out : List Nat} {i k : Nat} (h0 : ∀ j (h : j < out.length), j < k -> beforeE es out[j] i = true) (hk : k < out.length) (h1 : beforeE es out[k] i = false) : insPos es out i = k := by
 unfold insPos
 rw [<- List.take_append_drop k out, List.takeWhile_append_of_pos, List.drop_eq_getElem_cons hk, List.takeWhile_cons_of_neg (by simp [h1])]
 ·simp; omega
 ·intro a ha
  obtain ⟨j, hj, rfl⟩ := List.mem_iff_getElem.1 ha
  rw [List.length_take] at hj
  rw [List.getElem_take]
  exact h0 j (by omega) (by omega)
theorem insPos_all {es : List Edg} {out : List Nat} {i : Nat} (h0 : ∀ j (h : j < out.length), beforeE es out[j] i = true) : insPos es out i = out.length := by
 unfold insPos
 have key : ∀ (l : List Nat), (∀ a ∈ l, beforeE es a i = true) -> l.takeWhile (fun j => beforeE es j i) = l := by
  intro l
  induction l with
  | nil => intro _; rfl
  | cons a l ih =>
    intro h
    rw [List.takeWhile_cons, h a (by simp), if_pos rfl, ih fun b hb => h b (by simp [hb])]
 rw [key out fun a ha => by
  obtain ⟨j, hj, rfl⟩ := List.mem_iff_getElem.1 ha
  exact h0 j hj]
theorem edgesStep_mem {es : List Edg} {s : Int} {out : List Nat} {i N : Nat} (h : ∀ j ∈ out, j < N) (hi : i < N) : ∀ j ∈ edgesStep es s out i, j < N := by
 intro j hj
 unfold edgesStep at hj
 split at hj
 ·split at hj
  ·unfold insE at hj
   rcases List.mem_append.1 hj with hj | hj
   ·exact h j (List.mem_of_mem_take hj)
   ·rcases List.mem_cons.1 hj with rfl | hj
    ·exact hi
    ·exact h j (List.mem_of_mem_drop hj)
  ·exact h j hj
 ·exact h j hj
theorem edges_mem {es : List Edg} {s : Int} {N : Nat} : ∀ k, k <= N -> ∀ j ∈ (List.range k).foldl (edgesStep es s) [], j < N
 | 0, _ => by simp
 | k + 1, h => by
   rw [foldl_range]
   exact edgesStep_mem (edges_mem k (by omega)) (by omega)
theorem edgesStep_len (es : List Edg) (s : Int) (out : List Nat) (i : Nat) : (edgesStep es s out i).length <= out.length + 1 := by
 unfold edgesStep
 split
 ·split
  ·rw [insE_len]; omega
  ·omega
 ·omega
theorem edges_len {es : List Edg} {s : Int} : ∀ k, ((List.range k).foldl (edgesStep es s) []).length <= k
 | 0 => by simp
 | k + 1 => by
   have ih := edges_len (es := es) (s := s) k
   have := edgesStep_len es s ((List.range k).foldl (edgesStep es s) []) k
   rw [foldl_range]
   omega
def encK (k : Nat) : List DV := [.int .i64 (k : Int)]
end Go.Av
