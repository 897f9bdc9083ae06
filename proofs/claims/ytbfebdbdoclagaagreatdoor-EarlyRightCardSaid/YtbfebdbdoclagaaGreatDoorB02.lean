/- Part of a proof. -/
import Derived.Test.YtbfebdbdoclagaaGreatDoorAvR
import Derived.Test.YtbfebdbdoclagaaGreatDoorB01
set_option linter.unusedVariables false
set_option linter.unusedSimpArgs false
set_option maxHeartbeats 64000000
set_option maxRecDepth 8000
namespace Go.Av
open Go Go.RowKit Go.Proofs
set_option maxHeartbeats 64000000
theorem f156 (l : List Dcl) (g : FuncId) (caps : List DV) (p : Dcl -> Bool) (hl : l.length <= 1000000) (hg : ∀ x ∈ l, Impl Tryz.prog g (.ag (encD x) :: caps.map .one) (.one (.one (.bool (p x))))) :
  Impl Tryz.prog 156 [.one (.sl (l.map encD)), .one (.fn g caps)] (.one (.one (.int .i64 (firstB p l)))) := by
 refine impl_v ?_
 refine wN ?_
 refine z_k (fun n e => ∃ k : Nat, k + n = l.length /\ (l.take k).any p = false /\ e = [(8, .sv (.one (.int .i64 k))), (7, .sv (.one (.int .i64 l.length))), (1, .sv (.one (.fn g caps))), (0, .sv (.one (.sl (l.map encD))))]) l.length _ ⟨0, by simp, by simp, rfl⟩ (by simp [go_sem]) ?_
 rintro n e ⟨k, hk, h0, rfl⟩
 by_cases hlt : k < l.length
 ·have hgs := hg l[k] (List.getElem_mem hlt)
  simp only [encD] at hgs
  cases hx : p l[k] with
  | true =>
    have hf := firstB_at hlt h0 hx
    rw [hx] at hgs
    refine wV (aN hlt encD.eq_1) hgs ?_
    simp [go_sem, hf]
  | false =>
    rw [hx] at hgs
    refine wV (aN hlt encD.eq_1) hgs ?_
    refine z_j (n - 1) _ (by omega) ⟨k + 1, by omega, ?_, rfl⟩ ?_
    ·rw [any_succ hlt, h0, hx]; rfl
    ·simp [go_sem]
 ·have hkl : l.take k = l := List.take_of_length_le (by omega)
  rw [hkl] at h0
  have hf := firstB_none h0
  refine wX hlt ?_
  simp [go_sem, hf]
theorem f141 (l : List Dcl) (g : FuncId) (caps : List DV) (p : Dcl -> Bool) (hl : l.length <= 1000000) (hg : ∀ x ∈ l, Impl Tryz.prog g (.ag (encD x) :: caps.map .one) (.one (.one (.bool (p x))))) :
  Impl Tryz.prog 141 [.one (.sl (l.map encD)), .one (.fn g caps)] (.one (.one (.bool (l.any p)))) := by
 refine impl_v ?_
 have hf := firstB_any p l
 refine wC (f156 l g caps p hl hg) ?_
 simp [go_sem, hf]
theorem f142 (x d : Dcl) : Impl Tryz.prog 142 [.ag (encD x), .one (.rf (encD d))] (.one (.one (.bool (x.name == d.name)))) := by
 refine impl_v ?_
 refine wX encD.eq_1 ?_
 simp [go_sem]
theorem f157 (l : List Fld) (g : FuncId) (caps : List DV) (p : Fld -> Bool) (hl : l.length <= 1000000) (hg : ∀ x ∈ l, Impl Tryz.prog g (.ag (encF x) :: caps.map .one) (.one (.one (.bool (p x))))) :
  Impl Tryz.prog 157 [.one (.sl (l.map encF)), .one (.fn g caps)] (.one (.one (.int .i64 (firstB p l)))) := by
 refine impl_v ?_
 refine wN ?_
 refine z_k (fun n e => ∃ k : Nat, k + n = l.length /\ (l.take k).any p = false /\ e = [(8, .sv (.one (.int .i64 k))), (7, .sv (.one (.int .i64 l.length))), (1, .sv (.one (.fn g caps))), (0, .sv (.one (.sl (l.map encF))))]) l.length _ ⟨0, by simp, by simp, rfl⟩ (by simp [go_sem]) ?_
 rintro n e ⟨k, hk, h0, rfl⟩
 by_cases hlt : k < l.length
 ·have hgs := hg l[k] (List.getElem_mem hlt)
  simp only [encF] at hgs
  cases hx : p l[k] with
  | true =>
    have hf := firstB_at hlt h0 hx
    rw [hx] at hgs
    refine wV (aN hlt encF.eq_1) hgs ?_
    simp [go_sem, hf]
  | false =>
    rw [hx] at hgs
    refine wV (aN hlt encF.eq_1) hgs ?_
    refine z_j (n - 1) _ (by omega) ⟨k + 1, by omega, ?_, rfl⟩ ?_
    ·rw [any_succ hlt, h0, hx]; rfl
    ·simp [go_sem]
 ·have hkl : l.take k = l := List.take_of_length_le (by omega)
  rw [hkl] at h0
  have hf := firstB_none h0
  refine wX hlt ?_
  simp [go_sem, hf]
theorem f144 (l : List Fld) (g : FuncId) (caps : List DV) (p : Fld -> Bool) (hl : l.length <= 1000000) (hg : ∀ x ∈ l, Impl Tryz.prog g (.ag (encF x) :: caps.map .one) (.one (.one (.bool (p x))))) :
  Impl Tryz.prog 144 [.one (.sl (l.map encF)), .one (.fn g caps)] (.one (.one (.bool (l.any p)))) := by
 refine impl_v ?_
 have hf := firstB_any p l
 refine wC (f157 l g caps p hl hg) ?_
 simp [go_sem, hf]
theorem f145 (x d : Fld) : Impl Tryz.prog 145 [.ag (encF x), .one (.rf (encF d))] (.one (.one (.bool (x.name == d.name)))) := by
 refine impl_v ?_
 refine wX encF.eq_1 ?_
 simp [go_sem]
set_option maxHeartbeats 64000000
theorem range_succ_all (p : Nat -> Bool) (k : Nat) : (List.range (k + 1)).all p = ((List.range k).all p && p k) := by simp [List.range_succ]
theorem range_all_no {p : Nat -> Bool} {n k : Nat} (h : k < n) (hb : p k = false) : (List.range n).all p = false := by
 rw [List.all_eq_false]
 exact ⟨k, by simp [h], by simp [hb]⟩
theorem frz_encF (x : Fld) : frzL (encF x) = encF x := by simp [encF, frzL, DV.frz]
def okFieldAt (fs : List Fld) (k : Nat) : Bool := match fs[k]? with
 | some f => isWord f.name && goodSort f && !(fs.take k).any (fun x => x.name == f.name)
 | none => true
def okFields (fs : List Fld) : Bool := (List.range fs.length).all (okFieldAt fs)
def okDeclAt (l : List Dcl) (i : Nat) : Bool := match l[i]? with
 | some d => isPath d.name && decide (d.fields.length <= 4) && decide (d.first = ((allF (l.take i)).length : Int)) && !(l.take i).any (fun x => x.name == d.name) && okFields d.fields && okGuard (allF l) d
 | none => true
def validD (l : List Dcl) : Bool := decide (l.length <= 40) && decide ((allF l).length <= 24) && (List.range l.length).all (okDeclAt l)
theorem okFieldAt_get {fs : List Fld} {k : Nat} (h : k < fs.length) : okFieldAt fs k = (isWord fs[k].name && goodSort fs[k] && !(fs.take k).any (fun x => x.name == fs[k].name)) := by
 unfold okFieldAt
 rw [List.getElem?_eq_getElem h]
theorem okDeclAt_get {l : List Dcl} {i : Nat} (h : i < l.length) : okDeclAt l i = (isPath l[i].name && decide (l[i].fields.length <= 4) && decide (l[i].first = ((allF (l.take i)).length : Int)) && !(l.take i).any (fun x => x.name == l[i].name) && okFields l[i].fields && okGuard (allF l) l[i]) := by
 unfold okDeclAt
 rw [List.getElem?_eq_getElem h]
theorem f125 (l : List Dcl) (hl : l.length <= 1000) (hf : ∀ d ∈ l, d.fields.length <= 2000000) : Impl Tryz.prog 125 [.one (.sl (l.map encD))] (.one (.one (.bool (validD l)))) := by
 refine impl_v ?_
 by_cases h40 : l.length <= 40
 ·have h40' : ¬ (40 : Int) < (l.length : Int) := by omega
  have f139s := f139 l hl hf
  obtain ⟨all, hA⟩ : ∃ all, all = allF l := ⟨_, rfl⟩
  rw [<- hA] at f139s
  by_cases h24 : all.length <= 24
  ·have h24' : ¬ (24 : Int) < (all.length : Int) := by omega
   refine wV (aN h40' h24') f139s ?_
   refine z_k (fun n e => ∃ i : Nat, i + n = l.length /\ (List.range i).all (okDeclAt l) = true /\ e = [(19, .sv (.one (.int .i64 i))), (18, .sv (.one (.int .i64 l.length))), (17, .sv (.one (.sl (l.map encD)))), (4, .sv (.one (.int .i64 ((allF (l.take i)).length : Nat)))), (3, .sv (.one (.ow 4 (all.map encF)))), (0, .sv (.one (.sl (l.map encD))))]) l.length _ ⟨0, by simp, by simp, rfl⟩ (by simp [go_sem, allF]) ?_
   rintro n e ⟨i, hi, hall, rfl⟩
   by_cases hlt : i < l.length
   ·have hfi := hf l[i] (List.getElem_mem hlt)
    have hok := okDeclAt_get hlt
    have hbad : okDeclAt l i = false -> validD l = false := fun h => by simp [validD, range_all_no hlt h]
    have hat := allF_take_le (k := i) hf
    have hsc := congrArg List.length (allF_succ hlt)
    rw [List.length_append] at hsc
    obtain ⟨d, hd⟩ : ∃ d, l[i] = d := ⟨_, rfl⟩
    rw [hd] at hfi hok hsc
    have f140s := f140 d.name
    have hti : (l.take i).length <= 1000000 := Nat.le_trans (List.length_take_le _ _) (by omega)
    have f141s := f141 (l.take i) 142 [.rf (encD d)] (fun x => x.name == d.name) hti (fun x _ => f142 x d)
    rw [List.map_take] at f141s
    cases hp : isPath d.name with
    | false =>
      have hv := hbad (by rw [hok, hp]; rfl)
      rw [hp] at f140s
      refine wV (aN hlt <| aN hd encD.eq_1) f140s ?_
      simp [go_sem, hv]
    | true =>
      rw [hp] at f140s
      by_cases h4 : d.fields.length <= 4
      ·have h4' : ¬ (4 : Int) < (d.fields.length : Int) := by omega
       by_cases hfst : d.first = ((allF (l.take i)).length : Int)
       ·have hfst' : (d.first != ((allF (l.take i)).length : Int)) = false := by simp [hfst]
        cases hany : (l.take i).any (fun x => x.name == d.name) with
        | true =>
          have hv := hbad (by rw [hok, hany]; simp)
          rw [hany] at f141s
          refine wV (aN hlt <| aN hd <| aN encD.eq_1 <| aN h4' hfst') (aN f140s f141s) ?_
          simp [go_sem, hv]
        | false =>
          rw [hany] at f141s
          refine wV (aN hlt <| aN hd <| aN encD.eq_1 <| aN h4' hfst') (aN f140s f141s) ?_
          refine z_k (fun q e => ∃ k : Nat, k + q = d.fields.length /\ (List.range k).all (okFieldAt d.fields) = true /\ e = [(55, .sv (.one (.int .i64 k))), (54, .sv (.one (.int .i64 d.fields.length))), (53, .sv (.one (.sl (d.fields.map encF)))), (6, .sv (.one (.bx (encD d)))), (19, .sv (.one (.int .i64 i))), (18, .sv (.one (.int .i64 l.length))), (17, .sv (.one (.sl (l.map encD)))), (4, .sv (.one (.int .i64 ((allF (l.take (i + 1))).length : Nat)))), (3, .sv (.one (.ow 4 (all.map encF)))), (0, .sv (.one (.sl (l.map encD))))]) d.fields.length _ ⟨0, by simp, by simp, rfl⟩ (by simp [go_sem, encD, hsc]) ?_
          rintro q e ⟨k, hk, hfa, rfl⟩
          by_cases hkl : k < d.fields.length
          ·have hfo := okFieldAt_get hkl
           have hfbad : okFieldAt d.fields k = false -> validD l = false := fun h => hbad (by rw [hok]; simp [okFields, range_all_no hkl h])
           obtain ⟨f, hfe⟩ : ∃ f, d.fields[k] = f := ⟨_, rfl⟩
           rw [hfe] at hfo
           have f95s := f95 f.name
           have f143s := f143 f.kind f.lo f.hi f.name
           have hge : goodSort ⟨f.name, f.kind, f.lo, f.hi⟩ = goodSort f := rfl
           rw [hge] at f143s
           have htk : (d.fields.take k).length <= 1000000 := Nat.le_trans (List.length_take_le _ _) (by omega)
           have f144s := f144 (d.fields.take k) 145 [.rf (encF f)] (fun x => x.name == f.name) htk (fun x _ => f145 x f)
           rw [List.map_take] at f144s
           cases hw : isWord f.name with
           | false =>
             have hv := hfbad (by rw [hfo, hw]; rfl)
             rw [hw] at f95s
             refine wV (aN hkl <| aN hfe <| aN encD.eq_1 encF.eq_1) f95s ?_
             simp [go_sem, hv]
           | true =>
             rw [hw] at f95s
             cases hgs : goodSort f with
             | false =>
               have hv := hfbad (by rw [hfo, hgs]; simp)
               rw [hgs] at f143s
               refine wV (aN hkl <| aN hfe <| aN encD.eq_1 encF.eq_1) (aN f95s f143s) ?_
               simp [go_sem, hv]
             | true =>
               rw [hgs] at f143s
               cases hfy : (d.fields.take k).any (fun x => x.name == f.name) with
               | true =>
                 have hv := hfbad (by rw [hfo, hfy]; simp)
                 rw [hfy] at f144s
                 refine wV (aN hkl <| aN hfe <| aN encD.eq_1 encF.eq_1) (aN f95s <| aN f143s f144s) ?_
                 simp [go_sem, hv]
               | false =>
                 have hfo' : okFieldAt d.fields k = true := by rw [hfo, hw, hgs, hfy]; rfl
                 rw [hfy] at f144s
                 refine wV (aN hkl <| aN hfe <| aN encD.eq_1 encF.eq_1) (aN f95s <| aN f143s f144s) ?_
                 refine z_j (q - 1) _ (by omega) ⟨k + 1, by omega, ?_, rfl⟩ ?_
                 ·rw [range_succ_all, hfa, hfo']; rfl
                 ·simp [go_sem, encD]
          ·have hke : k = d.fields.length := by omega
           rw [hke] at hfa
           have hfs : okFields d.fields = true := hfa
           have f146s := f146 all d (by omega)
           cases hgd : okGuard all d with
           | false =>
             have hv := hbad (by rw [hok, <- hA, hgd]; simp)
             rw [hgd] at f146s
             refine wV (aN hkl <| aN encD.eq_1 @frz_encF) f146s ?_
             simp [go_sem, hv]
           | true =>
             have hoi : okDeclAt l i = true := by rw [hok, <- hA, hgd, hp, hany, hfs]; simp [h4, hfst]
             rw [hgd] at f146s
             refine wV (aN hkl <| aN encD.eq_1 frz_encF) f146s ?_
             refine z_j (n - 1) _ (by omega) ⟨i + 1, by omega, ?_, rfl⟩ ?_
             ·rw [range_succ_all, hall, hoi]; rfl
             ·simp [go_sem]
       ·have hv := hbad (by rw [hok]; simp [hfst])
        refine wV (aN hlt <| aN hd <| aN encD.eq_1 <| aN h4' hfst) f140s ?_
        simp [go_sem, hv]
      ·have h4' : (4 : Int) < (d.fields.length : Int) := by omega
       have hv := hbad (by rw [hok]; simp [h4])
       refine wV (aN hlt <| aN hd <| aN encD.eq_1 h4') f140s ?_
       simp [go_sem, hv]
   ·have hie : i = l.length := by omega
    rw [hie] at hall
    refine wX hlt ?_
    have hv : validD l = true := by simp only [validD, h40, decide_true, Bool.true_and, <- hA, h24, hall]
    simp [go_sem, hv]
  ·have h24' : (24 : Int) < (all.length : Int) := by omega
   refine wV (aN h40' h24') f139s ?_
   have hv : validD l = false := by simp [validD, <- hA, h24]
   simp [go_sem, hv]
 ·have h40' : (40 : Int) < (l.length : Int) := by omega
  refine wX h40' ?_
  have hv : validD l = false := by simp [validD, h40]
  simp [go_sem, hv]
set_option maxHeartbeats 64000000
theorem any_no {α : Type} {p : α -> Bool} {l : List α} {k : Nat} (h : k < l.length) (hb : p l[k] = true) {m : Nat} (hm : k < m) : (l.take m).any p = true := by
 rw [List.any_eq_true]
 exact ⟨l[k], List.mem_iff_getElem.2 ⟨k, by rw [List.length_take]; omega, by simp⟩, hb⟩
theorem f81 (l : List Dcl) (hl : l.length <= 1000) (hf : ∀ d ∈ l, d.fields.length <= 1000000000000000) (hdl : ∀ d ∈ l, d.diffs.length <= 1000000000000000 /\ d.equals.length <= 1000000000000000 /\ d.name.size <= 1000000000000000) : Impl Tryz.prog 81 [.one (.sl (l.map encD))] (.one (.one (.bool (validD l)))) := by
 refine impl_v ?_
 by_cases h40 : l.length <= 40
 ·have h40' : ¬ (40 : Int) < (l.length : Int) := by omega
  have f115s := f115 l hl hf
  obtain ⟨all, hA⟩ : ∃ all, all = allF l := ⟨_, rfl⟩
  rw [<- hA] at f115s
  by_cases h24 : all.length <= 24
  ·have h24' : ¬ (24 : Int) < (all.length : Int) := by omega
   refine wV (aN h40' h24') f115s ?_
   refine z_k (fun n e => ∃ i : Nat, i + n = l.length /\ (List.range i).all (okDeclAt l) = true /\ e = [(4, .sv (.one (.int .i64 i))), (3, .sv (.one (.int .i64 ((allF (l.take i)).length : Nat)))), (0, .sv (.one (.sl (l.map encD))))]) l.length _ ⟨0, by simp, by simp, rfl⟩ (by simp [go_sem, allF]) ?_
   rintro n e ⟨i, hi, hall, rfl⟩
   by_cases hlt : i < l.length
   ·have hfi := hf l[i] (List.getElem_mem hlt)
    obtain ⟨hd1, hd2, hd3⟩ := hdl l[i] (List.getElem_mem hlt)
    have hok := okDeclAt_get hlt
    have hbad : okDeclAt l i = false -> validD l = false := fun h => by simp [validD, range_all_no hlt h]
    have hat := allF_take_le (k := i) hf
    have hsc := congrArg List.length (allF_succ hlt)
    rw [List.length_append] at hsc
    obtain ⟨d, hd⟩ : ∃ d, l[i] = d := ⟨_, rfl⟩
    rw [hd] at hfi hok hsc hd1 hd2 hd3
    refine wX (aN hlt <| aN hd encD.eq_1) ?_
    refine z_k (fun q e => ∃ k : Nat, k + q = i /\ (l.take k).any (fun x => x.name == d.name) = false /\ e = [(6, .sv (.one (.int .i64 k))), (5, .sv (.one (.bx (encD d)))), (4, .sv (.one (.int .i64 i))), (3, .sv (.one (.int .i64 ((allF (l.take i)).length : Nat)))), (0, .sv (.one (.sl (l.map encD))))]) i _ ⟨0, by simp, by simp, rfl⟩ (by simp [go_sem, encD]) ?_
    rintro q e ⟨k, hk, hany, rfl⟩
    by_cases hki : k < i
    ·have hkl : k < l.length := by omega
     cases hx : (l[k].name == d.name) with
     | true =>
       have hv := hbad (by rw [hok, any_no (p := fun x => x.name == d.name) hkl hx hki]; simp)
       refine wX (aN hki <| aN hkl <| aN hx encD.eq_1) ?_
       simp [go_sem, hv]
     | false =>
       refine wX (aN hki <| aN hkl <| aN hx encD.eq_1) ?_
       refine z_j (q - 1) _ (by omega) ⟨k + 1, by omega, ?_, rfl⟩ ?_
       ·rw [any_succ hkl, hany, hx]; rfl
       ·simp [go_sem, encD]
    ·have hke : k = i := by omega
     subst hke
     refine wX hki ?_
     refine z_k (fun q e => ∃ k' : Nat, k' + q = d.fields.length /\ (List.range k').all (okFieldAt d.fields) = true /\ e = [(7, .sv (.one (.int .i64 k'))), (5, .sv (.one (.bx (encD d)))), (4, .sv (.one (.int .i64 k))), (3, .sv (.one (.int .i64 ((allF (l.take k)).length : Nat)))), (0, .sv (.one (.sl (l.map encD))))]) d.fields.length _ ⟨0, by simp, by simp, rfl⟩ (by simp [go_sem, encD]) ?_
     rintro q2 e ⟨m, hm, hfa, rfl⟩
     by_cases hml : m < d.fields.length
     ·have hfo := okFieldAt_get hml
      have hfbad : okFieldAt d.fields m = false -> validD l = false := fun h => hbad (by rw [hok]; simp [okFields, range_all_no hml h])
      obtain ⟨f, hfe⟩ : ∃ f, d.fields[m] = f := ⟨_, rfl⟩
      rw [hfe] at hfo
      have f79s := f79 f.name
      have f116s := f116 f.kind f.lo f.hi f.name
      have hge : goodSort ⟨f.name, f.kind, f.lo, f.hi⟩ = goodSort f := rfl
      rw [hge] at f116s
      cases hgs : goodSort f with
      | false =>
        have hv := hfbad (by rw [hfo, hgs]; simp)
        rw [hgs] at f116s
        refine wV (aN hml <| aN hfe <| aN encD.eq_1 encF.eq_1) f116s ?_
        simp [go_sem, hv]
      | true =>
        rw [hgs] at f116s
        cases hw : isWord f.name with
        | false =>
          have hv := hfbad (by rw [hfo, hw]; rfl)
          rw [hw] at f79s
          refine wV (aN hml <| aN hfe <| aN encD.eq_1 encF.eq_1) (aN f79s f116s) ?_
          simp [go_sem, hv]
        | true =>
          rw [hw] at f79s
          refine wV (aN hml <| aN hfe <| aN encD.eq_1 encF.eq_1) (aN f79s f116s) ?_
          refine z_k (fun q e => ∃ j : Nat, j + q = m /\ (d.fields.take j).any (fun x => x.name == f.name) = false /\ e = [(8, .sv (.one (.int .i64 j))), (7, .sv (.one (.int .i64 m))), (5, .sv (.one (.bx (encD d)))), (4, .sv (.one (.int .i64 k))), (3, .sv (.one (.int .i64 ((allF (l.take k)).length : Nat)))), (0, .sv (.one (.sl (l.map encD))))]) m _ ⟨0, by simp, by simp, rfl⟩ (by simp [go_sem, encD]) ?_
          rintro q3 e ⟨j, hj, hany2, rfl⟩
          by_cases hjm : j < m
          ·have hjl : j < d.fields.length := by omega
           cases hx : (d.fields[j].name == f.name) with
           | true =>
             have hv := hfbad (by rw [hfo, any_no (p := fun x => x.name == f.name) hjl hx hjm]; simp)
             refine wX (aN hjm <| aN hjl <| aN hml <| aN hx <| aN hfe <| aN encD.eq_1 encF.eq_1) ?_
             simp [go_sem, hv]
           | false =>
             refine wX (aN hjm <| aN hjl <| aN hml <| aN hx <| aN hfe <| aN encD.eq_1 encF.eq_1) ?_
             refine z_j (q3 - 1) _ (by omega) ⟨j + 1, by omega, ?_, rfl⟩ ?_
             ·rw [any_succ hjl, hany2, hx]; rfl
             ·simp [go_sem, encD]
          ·have hje : j = m := by omega
           subst hje
           have hfo' : okFieldAt d.fields j = true := by rw [hfo, hw, hgs, hany2]; rfl
           refine wX hjm ?_
           refine z_j (q2 - 1) _ (by omega) ⟨j + 1, by omega, ?_, rfl⟩ ?_
           ·rw [range_succ_all, hfa, hfo']; rfl
           ·simp [go_sem, encD]
     ·have hme : m = d.fields.length := by omega
      rw [hme] at hfa
      have hfs : okFields d.fields = true := hfa
      have f117s := f117 d.name hd3
      have f118s := f118 l d hl hf hd1 hd2
      rw [<- hA] at f118s
      cases hp : isPath d.name with
      | false =>
        have hv := hbad (by rw [hok, hp]; rfl)
        rw [hp] at f117s
        refine wV (aN hml encD.eq_1) f117s ?_
        simp [go_sem, hv]
      | true =>
        rw [hp] at f117s
        by_cases h4 : d.fields.length <= 4
        ·have h4' : ¬ (4 : Int) < (d.fields.length : Int) := by omega
         by_cases hfst : d.first = ((allF (l.take k)).length : Int)
         ·have hfst' : (d.first != ((allF (l.take k)).length : Int)) = false := by simp [hfst]
          cases hgd : okGuard all d with
          | false =>
            have hv := hbad (by rw [hok, <- hA, hgd]; simp)
            rw [hgd] at f118s
            refine wV (aN hml <| aN h4' <| aN hfst' encD.eq_1) (aN f117s f118s) ?_
            simp [go_sem, hv]
          | true =>
            have hoi : okDeclAt l k = true := by rw [hok, <- hA, hgd, hp, hany, hfs]; simp [h4, hfst]
            rw [hgd] at f118s
            refine wV (aN hml <| aN h4' <| aN hfst' encD.eq_1) (aN f117s f118s) ?_
            refine z_j (n - 1) _ (by omega) ⟨k + 1, by omega, ?_, rfl⟩ ?_
            ·rw [range_succ_all, hall, hoi]; rfl
            ·simp [go_sem, hsc]
         ·have hv := hbad (by rw [hok]; simp [hfst])
          refine wV (aN hml <| aN h4' <| aN hfst encD.eq_1) f117s ?_
          simp [go_sem, hv]
        ·have h4' : (4 : Int) < (d.fields.length : Int) := by omega
         have hv := hbad (by rw [hok]; simp [h4])
         refine wV (aN hml <| aN h4' encD.eq_1) f117s ?_
         simp [go_sem, hv]
   ·have hie : i = l.length := by omega
    rw [hie] at hall
    refine wX hlt ?_
    have hv : validD l = true := by simp only [validD, h40, decide_true, Bool.true_and, <- hA, h24, hall]
    simp [go_sem, hv]
  ·have h24' : (24 : Int) < (all.length : Int) := by omega
   refine wV (aN h40' h24') f115s ?_
   have hv : validD l = false := by simp [validD, <- hA, h24]
   simp [go_sem, hv]
 ·have h40' : (40 : Int) < (l.length : Int) := by omega
  refine wX h40' ?_
  have hv : validD l = false := by simp [validD, h40]
  simp [go_sem, hv]
set_option maxHeartbeats 64000000
def boundsAt (d : Dcl) (i : Nat) : List Dff := match d.fields[i]? with
 | some f => [⟨d.first + i, -1, f.hi⟩, ⟨-1, d.first + i, 0 - f.lo⟩]
 | none => []
def boundsF (d : Dcl) (k : Nat) : List Dff := (List.range k).flatMap (boundsAt d)
def boundsE (es : List (Int × Int)) : List Dff := es.flatMap fun e => [⟨e.1, e.2, 0⟩, ⟨e.2, e.1, 0⟩]
def boundsOf (d : Dcl) : List Dff := boundsF d d.fields.length ++ d.diffs ++ boundsE d.equals
theorem boundsF_succ {d : Dcl} {k : Nat} (h : k < d.fields.length) : boundsF d (k + 1) = boundsF d k ++ [⟨d.first + k, -1, d.fields[k].hi⟩, ⟨-1, d.first + k, 0 - d.fields[k].lo⟩] := by
 simp [boundsF, List.range_succ, boundsAt, h]
theorem boundsF_len (d : Dcl) : ∀ k, (boundsF d k).length <= 2 * k
 | 0 => by simp [boundsF]
 | k + 1 => by
   have ih := boundsF_len d k
   have : (boundsAt d k).length <= 2 := by unfold boundsAt; split <;> simp
   have e : boundsF d (k + 1) = boundsF d k ++ boundsAt d k := by simp [boundsF, List.range_succ]
   rw [e, List.length_append]
   omega
theorem boundsE_len : ∀ l : List (Int × Int), (boundsE l).length = 2 * l.length
 | [] => rfl
 | e :: l => by
   have := boundsE_len l
   simp only [boundsE, List.flatMap_cons, List.length_append, List.length_cons, List.length_nil] at this ⊢
   omega
theorem boundsE_succ {l : List (Int × Int)} {k : Nat} (h : k < l.length) : boundsE (l.take (k + 1)) = boundsE (l.take k) ++ [⟨l[k].1, l[k].2, 0⟩, ⟨l[k].2, l[k].1, 0⟩] := by
 unfold boundsE
 rw [List.take_succ_eq_append_getElem h, List.flatMap_append]
 simp
theorem f126 (d : Dcl) (hf : d.fields.length <= 100) (hd : d.diffs.length <= 1000) (he : d.equals.length <= 1000) (hfst : -1000000 <= d.first /\ d.first <= 1000000) (hlo : ∀ f ∈ d.fields, -1000000 <= f.lo /\ f.lo <= 1000000) :
  Impl Tryz.prog 126 [.ag (encD d)] (.one (.one (.ow 3 ((boundsOf d).map encDf)))) := by
 refine impl_v ?_
 refine wX encD.eq_1 ?_
 refine z_k (fun n e => ∃ k : Nat, k + n = d.fields.length /\ e = [(11, .sv (.one (.int .i64 k))), (10, .sv (.one (.int .i64 d.fields.length))), (9, .sv (.one (.sl (d.fields.map encF)))), (3, .sv (.one (.ow 3 ((boundsF d k).map encDf)))), (1, .sv (.one (.bx (encD d))))]) d.fields.length _ ⟨0, by simp, rfl⟩ (by simp [go_sem, boundsF, encD]) ?_
 rintro n e ⟨k, hk, rfl⟩
 by_cases hlt : k < d.fields.length
 ·have hbl := boundsF_len d k
  have hs := boundsF_succ hlt
  obtain ⟨f, hfe⟩ : ∃ f, d.fields[k] = f := ⟨_, rfl⟩
  have hlo' := hlo d.fields[k] (List.getElem_mem hlt)
  rw [hfe] at hlo' hs
  have w1 : IntKind.i64.wrap (d.first + (k : Int)) = d.first + k := z_h (by omega) (by omega)
  have w2 : IntKind.i64.wrap (0 - f.lo) = 0 - f.lo := z_h (by omega) (by omega)
  have w3 : IntKind.i64.wrap (-f.lo) = 0 - f.lo := by rw [z_h (by omega) (by omega)]; omega
  repeat' first | refine St.go ?_ | ((with_reducible refine cn ?_ ?_) <;> intro h <;> (try simp at h) <;> try omega) | (refine Ru.go ?_; intro K hK; simp [go_sem, hlt, hfe, encD, encF, w1, w2, w3]; (try simp (disch := omega) only [wx, z_i]); (first | apply hK | refine ⟨by first | omega | (simp [z_f, z_g, hlt, hfe, encD, encF, w1, w2, w3, maxLen, DV.flat, encDf]; first | done | omega), ?_⟩ | refine ⟨hK _ ?_, fun h => ?_⟩ | refine ⟨?_, ?_⟩); all_goals ((try apply hK); clear hK K))
  refine z_j (n - 1) _ (by omega) ⟨k + 1, by omega, rfl⟩ ?_
  simp [go_sem, hs, encD, encDf]
 ·have hke : k = d.fields.length := by omega
  subst hke
  have hbl := boundsF_len d d.fields.length
  repeat' first | refine St.go ?_ | ((with_reducible refine cn ?_ ?_) <;> intro h <;> (try simp at h) <;> try omega) | (refine Ru.go ?_; intro K hK; simp [go_sem, hlt, encD]; (try simp (disch := omega) only [wx, z_i]); (first | apply hK | refine ⟨by first | omega | (simp [z_f, z_g, hlt, encD, maxLen, DV.flat, encDf]; first | done | omega), ?_⟩ | refine ⟨hK _ ?_, fun h => ?_⟩ | refine ⟨?_, ?_⟩); all_goals ((try apply hK); clear hK K))
  refine z_k (fun n e => ∃ k : Nat, k + n = d.equals.length /\ e = [(46, .sv (.one (.int .i64 k))), (45, .sv (.one (.int .i64 d.equals.length))), (44, .sv (.one (.sl (d.equals.map encEq)))), (3, .sv (.one (.ow 3 ((boundsF d d.fields.length ++ d.diffs ++ boundsE (d.equals.take k)).map encDf))))]) d.equals.length _ ⟨0, by simp, rfl⟩ (by simp [go_sem, boundsE]) ?_
  rintro n e ⟨k, hk, rfl⟩
  by_cases hlt2 : k < d.equals.length
  ·have hbe := boundsE_len (d.equals.take k)
   have htk : (d.equals.take k).length <= d.equals.length := by rw [List.length_take]; omega
   have hs := boundsE_succ hlt2
   repeat' first | refine St.go ?_ | ((with_reducible refine cn ?_ ?_) <;> intro h <;> (try simp at h) <;> try omega) | (refine Ru.go ?_; intro K hK; simp [go_sem, hlt2, encEq]; (try simp (disch := omega) only [wx, z_i]); (first | apply hK | refine ⟨by first | omega | (simp [z_f, z_g, hlt2, encEq, maxLen, DV.flat, encDf]; first | done | omega), ?_⟩ | refine ⟨hK _ ?_, fun h => ?_⟩ | refine ⟨?_, ?_⟩); all_goals ((try apply hK); clear hK K))
   refine z_j (n - 1) _ (by omega) ⟨k + 1, by omega, rfl⟩ ?_
   simp [go_sem, hs, encDf]
  ·have hkl : d.equals.take k = d.equals := List.take_of_length_le (by omega)
   refine wX (aN hlt2 hkl) ?_
   simp [go_sem, boundsOf]
set_option maxHeartbeats 64000000
theorem validD_decl {l : List Dcl} (hv : validD l = true) {i : Nat} (hi : i < l.length) : isPath l[i].name = true /\ l[i].fields.length <= 4 /\ l[i].first = ((allF (l.take i)).length : Int) /\ okFields l[i].fields = true /\ okGuard (allF l) l[i] = true := by
 simp only [validD, Bool.and_eq_true, List.all_eq_true, List.mem_range] at hv
 have h := hv.2 i hi
 rw [okDeclAt_get hi] at h
 simp only [Bool.and_eq_true, decide_eq_true_eq] at h
 exact ⟨h.1.1.1.1.1, h.1.1.1.1.2, h.1.1.1.2, h.1.2, h.2⟩
theorem validD_24 {l : List Dcl} (hv : validD l = true) : (allF l).length <= 24 := by
 simp only [validD, Bool.and_eq_true, decide_eq_true_eq] at hv
 exact hv.1.2
theorem okFields_sort {fs : List Fld} (h : okFields fs = true) : ∀ f ∈ fs, goodSort f = true := by
 intro f hf
 obtain ⟨k, hk, rfl⟩ := List.mem_iff_getElem.1 hf
 simp only [okFields, List.all_eq_true, List.mem_range] at h
 have := h k hk
 rw [okFieldAt_get hk] at this
 simp only [Bool.and_eq_true] at this
 exact this.1.2
theorem goodSort_lo {f : Fld} (h : goodSort f = true) : -1000 <= f.lo /\ f.lo <= 1000 /\ f.hi <= 1000 /\ f.lo <= f.hi := by
 unfold goodSort at h
 split at h
 ·simp at h; omega
 ·split at h
  ·simp at h; omega
  ·cases h
def boundsR (l : List Dcl) (i : Int) : RV := if 0 <= i /\ i < l.length /\ validD l = true then .tup [.one (.ow 3 (((l[i.toNat]?.map boundsOf).getD []).map encDf)), .one (.int .i64 0)] else .tup [.one (.ow 3 []), .one (.int .i64 1)]
theorem f97 (l : List Dcl) (i : Int) (hl : l.length <= 1000) (hf : ∀ d ∈ l, d.fields.length <= 2000000) : Impl Tryz.prog 97 [.one (.sl (l.map encD)), .one (.int .i64 i)] (boundsR l i) := by
 refine impl_v ?_
 have f125s := f125 l hl hf
 by_cases h0 : i < 0
 ·have hr : boundsR l i = .tup [.one (.ow 3 []), .one (.int .i64 1)] := by
   unfold boundsR
   rw [if_neg (by omega)]
  refine wX h0 ?_
  simp [go_sem, hr]
 ·by_cases hin : i < l.length
  ·have hin' : ¬ (l.length : Int) <= i := by omega
   cases hv : validD l with
   | false =>
     have hr : boundsR l i = .tup [.one (.ow 3 []), .one (.int .i64 1)] := by
      unfold boundsR
      rw [if_neg (by rw [hv]; simp)]
     rw [hv] at f125s
     refine wV (aN h0 hin') f125s ?_
     simp [go_sem, hr]
   | true =>
     obtain ⟨k, rfl⟩ : ∃ k : Nat, i = k := ⟨i.toNat, by omega⟩
     have hk : k < l.length := by omega
     obtain ⟨h1, h2, h3, h4, h5⟩ := validD_decl hv hk
     have h24 := validD_24 hv
     have hle : (allF (l.take k)).length <= (allF l).length := by
      rw [allF_split l k, List.length_append]; omega
     simp only [okGuard, Bool.and_eq_true, decide_eq_true_eq] at h5
     have f126s := f126 l[k] (by omega) (by omega) (by omega) (by omega) (fun f hf => by have := goodSort_lo (okFields_sort h4 f hf); omega)
     have hr : boundsR l k = .tup [.one (.ow 3 ((boundsOf l[k]).map encDf)), .one (.int .i64 0)] := by
      unfold boundsR
      rw [if_pos ⟨by omega, by omega, hv⟩]
      simp [hk]
     rw [hv] at f125s
     refine wV (aN h0 <| aN hin' <| aN hk encD.eq_1) (aN f125s f126s) ?_
     simp [go_sem, hr]
  ·have hin' : (l.length : Int) <= i := by omega
   have hr : boundsR l i = .tup [.one (.ow 3 []), .one (.int .i64 1)] := by
    unfold boundsR
    rw [if_neg (by omega)]
   refine wX (aN h0 hin') ?_
   simp [go_sem, hr]
theorem f64 (l : List Dcl) (hl : l.length <= 1000) (hf : ∀ d ∈ l, d.fields.length <= 2000000) : Impl Tryz.prog 64 [.one (.sl (l.map encD))] (.one (.one (.bool (validD l)))) := by
 refine impl_v ?_
 by_cases h0 : l.length = 0
 ·have hnil : l = [] := List.eq_nil_of_length_eq_zero h0
  have hv : validD l = true := by rw [hnil]; rfl
  refine wX h0 ?_
  simp [go_sem, hv]
 ·have f97s := f97 l 0 hl hf
  unfold boundsR at f97s
  cases hv : validD l with
  | true =>
    rw [if_pos ⟨by omega, by omega, hv⟩] at f97s
    refine wV h0 f97s ?_
    simp [go_sem]
  | false =>
    rw [if_neg (by rw [hv]; simp)] at f97s
    refine wV h0 f97s ?_
    simp [go_sem]
def okRoleAt (rs : List ByteArray) (k : Nat) : Bool := match rs[k]? with
 | some s => isWord s && !hasS (rs.take k) s
 | none => true
def okRoles (rs : List ByteArray) : Bool := (List.range rs.length).all (okRoleAt rs)
theorem okRoleAt_get {rs : List ByteArray} {k : Nat} (h : k < rs.length) : okRoleAt rs k = (isWord rs[k] && !hasS (rs.take k) rs[k]) := by
 unfold okRoleAt
 rw [List.getElem?_eq_getElem h]
def named (g : Glob) : Bool := isWord g.name && decide (1 <= g.roles.length) && decide (g.roles.length <= 6) && okRoles g.roles
theorem f62 (g : Glob) (hr : g.roles.length <= 1000000) : Impl Tryz.prog 62 [.ag (encG g)] (.one (.one (.bool (named g)))) := by
 refine impl_v ?_
 have f95s := f95 g.name
 cases hw : isWord g.name with
 | false =>
   have hv : named g = false := by simp [named, hw]
   rw [hw] at f95s
   refine wV encG.eq_1 f95s ?_
   simp [go_sem, hv]
 | true =>
   rw [hw] at f95s
   by_cases h1 : 1 <= g.roles.length
   ·have h1' : ¬ (g.roles.length : Int) < 1 := by omega
    by_cases h6 : g.roles.length <= 6
    ·have h6' : ¬ (6 : Int) < (g.roles.length : Int) := by omega
     refine wV (aN encG.eq_1 <| aN h1' h6') f95s ?_
     refine z_k (fun n e => ∃ k : Nat, k + n = g.roles.length /\ (List.range k).all (okRoleAt g.roles) = true /\ e = [(24, .sv (.one (.int .i64 k))), (23, .sv (.one (.int .i64 g.roles.length))), (22, .sv (.one (.sl (g.roles.map encS)))), (1, .sv (.one (.bx (encG g))))]) g.roles.length _ ⟨0, by simp, by simp, rfl⟩ (by simp [go_sem, encG]) ?_
     rintro n e ⟨k, hk, hall, rfl⟩
     by_cases hlt : k < g.roles.length
     ·have hok := okRoleAt_get hlt
      have hbad : okRoleAt g.roles k = false -> named g = false := fun h => by simp [named, okRoles, range_all_no hlt h]
      obtain ⟨s, hs⟩ : ∃ s, g.roles[k] = s := ⟨_, rfl⟩
      rw [hs] at hok
      have c1 := f95 s
      have c2 := f96 (g.roles.take k) s (Nat.le_trans (List.length_take_le _ _) (by omega))
      rw [List.map_take] at c2
      cases hws : isWord s with
      | false =>
        have hv := hbad (by rw [hok, hws]; rfl)
        rw [hws] at c1
        refine wV (aN hlt <| aN hs <| aN encG.eq_1 encS.eq_1) c1 ?_
        simp [go_sem, hv]
      | true =>
        rw [hws] at c1
        cases hh : hasS (g.roles.take k) s with
        | true =>
          have hv := hbad (by rw [hok, hh]; simp)
          rw [hh] at c2
          refine wV (aN hlt <| aN hs <| aN encG.eq_1 encS.eq_1) (aN c1 c2) ?_
          simp [go_sem, hv]
        | false =>
          have ho : okRoleAt g.roles k = true := by rw [hok, hws, hh]; rfl
          rw [hh] at c2
          refine wV (aN hlt <| aN hs <| aN encG.eq_1 encS.eq_1) (aN c1 c2) ?_
          refine z_j (n - 1) _ (by omega) ⟨k + 1, by omega, ?_, rfl⟩ ?_
          ·rw [range_succ_all, hall, ho]; rfl
          ·simp [go_sem, encG]
     ·have hke : k = g.roles.length := by omega
      rw [hke] at hall
      have hv : named g = true := by simp [named, hw, h1, h6, okRoles, hall]
      refine wX hlt ?_
      simp [go_sem, hv]
    ·have h6' : (6 : Int) < (g.roles.length : Int) := by omega
     have hv : named g = false := by simp [named, h6]
     refine wV (aN encG.eq_1 <| aN h1' h6') f95s ?_
     simp [go_sem, hv]
   ·have h1' : (g.roles.length : Int) < 1 := by omega
    have hv : named g = false := by simp [named, h1]
    refine wV (aN encG.eq_1 h1') f95s ?_
    simp [go_sem, hv]
set_option maxHeartbeats 64000000
structure Small (g : Glob) : Prop where
 roles : g.roles.length <= 1000
 decls : g.decls.length <= 1000
 fields : ∀ d ∈ g.decls, d.fields.length <= 1000000000000000
 parts : ∀ d ∈ g.decls, d.diffs.length <= 1000000000000000 /\ d.equals.length <= 1000000000000000 /\ d.name.size <= 1000000000000000
 edges : g.edges.length <= 1000
 timeouts : g.timeouts.length <= 1000
def stateB (g : Glob) (s : Int) : Bool := decide (0 <= s) && decide (s < g.states)
def okEdge (g : Glob) (x : Edg) : Bool := stateB g x.from_ && stateB g x.to && decide (0 <= x.act.from_) && decide (x.act.from_ < g.roles.length) && decide (0 <= x.act.to) && decide (x.act.to < g.roles.length) && decide (x.act.from_ ≠ x.act.to) && decide (0 <= x.act.label) && decide (x.act.label < g.decls.length)
def numbered (g : Glob) : Bool := decide (1 <= g.states) && decide (g.states <= 200) && stateB g g.start && stateB g g.end_ && decide (g.edges.length <= 400) && g.edges.all (okEdge g)
theorem numbered_edge {g : Glob} {k : Nat} (h : k < g.edges.length) (hb : okEdge g g.edges[k] = false) : numbered g = false := by simp [numbered, all_no h hb]
theorem f63 (g : Glob) (hs : Small g) : Impl Tryz.prog 63 [.ag (encG g)] (.one (.one (.bool (numbered g)))) := by
 obtain ⟨s1, s2, s3, s4, s5, s6⟩ := hs
 refine impl_intro z63.f z63.b rfl z63.r z63.n z63.t z63.d (by simp) fun hs => ?_
 clear hs s3 s4
 simp only [slotsOf]
 conv => arg 2; reduce
 repeat' first | refine St.go ?_ | ((with_reducible refine cn ?_ ?_) <;> intro h <;> (try simp at h) <;> try omega) | (refine Ru.go ?_; intro K hK; simp [go_sem, encG]; (try simp (disch := omega) only [wx, z_i]); (first | apply hK | refine ⟨by first | omega | (simp [z_f, z_g, encG]; first | done | omega), ?_⟩ | refine ⟨hK _ ?_, fun h => ?_⟩ | refine ⟨?_, ?_⟩); all_goals ((try apply hK); clear hK K))
 ·have hv : numbered g = false := by
   cases hb : numbered g with
   | false => rfl
   | true =>
     simp only [numbered, stateB, Bool.and_eq_true, decide_eq_true_eq] at hb
     omega
  simp [go_sem, hv]
 ·refine z_k (fun n e => ∃ k : Nat, k + n = g.edges.length /\ (g.edges.take k).all (okEdge g) = true /\ e = [(41, .sv (.one (.int .i64 k))), (40, .sv (.one (.int .i64 g.edges.length))), (39, .sv (.one (.sl (g.edges.map encEd)))), (1, .sv (.one (.bx (encG g))))]) g.edges.length _ ⟨0, by simp, by simp, rfl⟩ (by simp [go_sem, encG]) ?_
  rintro n e ⟨k, hk, hall, rfl⟩
  by_cases hlt : k < g.edges.length
  ·obtain ⟨x, hx⟩ : ∃ x, g.edges[k] = x := ⟨_, rfl⟩
   have hbad := numbered_edge hlt
   rw [hx] at hbad
   repeat' first | refine St.go ?_ | ((with_reducible refine cn ?_ ?_) <;> intro h <;> (try simp at h) <;> try omega) | (refine Ru.go ?_; intro K hK; simp [go_sem, hlt, hx, encG, encEd]; (try simp (disch := omega) only [wx, z_i]); (first | apply hK | refine ⟨by first | omega | (simp [z_f, z_g, hlt, hx, encG, encEd]; first | done | omega), ?_⟩ | refine ⟨hK _ ?_, fun h => ?_⟩ | refine ⟨?_, ?_⟩); all_goals ((try apply hK); clear hK K))
   ·have hb : okEdge g x = false := by
     cases hb : okEdge g x with
     | false => rfl
     | true =>
       simp only [okEdge, stateB, Bool.and_eq_true, decide_eq_true_eq] at hb
       omega
    have hv := hbad hb
    simp [go_sem, hv]
   ·have hb : okEdge g x = true := by
     simp only [okEdge, stateB, Bool.and_eq_true, decide_eq_true_eq]
     omega
    refine z_j (n - 1) _ (by omega) ⟨k + 1, by omega, ?_, rfl⟩ ?_
    ·rw [all_succ hlt, hall, hx, hb]; rfl
    ·simp [go_sem, encG]
  ·have hkl : g.edges.take k = g.edges := List.take_of_length_le (by omega)
   rw [hkl] at hall
   have hv : numbered g = true := by
    simp only [numbered, stateB, Bool.and_eq_true, decide_eq_true_eq]
    refine ⟨⟨⟨⟨⟨?_, ?_⟩, ?_⟩, ?_⟩, ?_⟩, hall⟩ <;> omega
   refine wX hlt ?_
   simp [go_sem, hv]
theorem f82 (g : Glob) (s : Int) : Impl Tryz.prog 82 [.ag (encG g), .one (.int .i64 s)] (.one (.one (.bool (stateB g s)))) := by
 refine impl_v ?_
 refine wX encG.eq_1 ?_
 simp [go_sem, stateB]
theorem f53 (g : Glob) (hs : Small g) : Impl Tryz.prog 53 [.ag (encG g)] (.one (.one (.bool (numbered g)))) := by
 obtain ⟨s1, s2, s3, s4, s5, s6⟩ := hs
 refine impl_intro z53.f z53.b rfl z53.r z53.n z53.t z53.d (by simp) fun hs => ?_
 clear hs s3 s4
 simp only [slotsOf]
 conv => arg 2; reduce
 have f82s := f82 g
 simp only [encG] at f82s
 refine wX encG.eq_1 ?_
 refine z_k (fun n e => ∃ k : Nat, k + n = g.edges.length /\ (g.edges.take k).all (okEdge g) = true /\ e = [(3, .sv (.one (.int .i64 k))), (1, .sv (.one (.bx (encG g))))]) g.edges.length _ ⟨0, by simp, by simp, rfl⟩ (by simp [go_sem, encG]) ?_
 rintro n e ⟨k, hk, hall, rfl⟩
 by_cases hlt : k < g.edges.length
 ·obtain ⟨x, hx⟩ : ∃ x, g.edges[k] = x := ⟨_, rfl⟩
  have hbad := numbered_edge hlt
  rw [hx] at hbad
  have c1 := f82s x.from_
  have c2 := f82s x.to
  cases h1 : stateB g x.from_ with
  | false =>
    have hv := hbad (by simp [okEdge, h1])
    rw [h1] at c1
    refine wV (aN hlt <| aN hx <| aN encG.eq_1 encEd.eq_1) c1 ?_
    simp [go_sem, hv]
  | true =>
    rw [h1] at c1
    cases h2 : stateB g x.to with
    | false =>
      have hv := hbad (by simp [okEdge, h2])
      rw [h2] at c2
      refine wV (aN hlt <| aN hx <| aN encG.eq_1 encEd.eq_1) (aN c1 c2) ?_
      simp [go_sem, hv]
    | true =>
      rw [h2] at c2
      repeat' first | refine St.go ?_ | ((with_reducible refine cn ?_ ?_) <;> intro h <;> (try simp at h) <;> try omega) | (refine Ru.go ?_; intro K hK; simp [go_sem, hlt, hx, encG, encEd]; (try simp (disch := omega) only [wx, z_i]); (first | apply hK | ((first | ((try refine .inl ?_); refine ⟨_, by (try intro hc); (repeat' first | exact c1 | exact c2 | exact hc | refine And.intro ?_ ?_ | simp [go_sem, hlt, hx, encG, encEd]); first | done | omega, ?_⟩) | refine .inr (.inl ⟨_, by (try intro hc); (repeat' first | exact c1 | exact c2 | exact hc | refine And.intro ?_ ?_ | simp [go_sem, hlt, hx, encG, encEd]); first | done | omega, ?_⟩) | refine .inr (.inr ⟨_, by (try intro hc); (repeat' first | exact c1 | exact c2 | exact hc | refine And.intro ?_ ?_ | simp [go_sem, hlt, hx, encG, encEd]); first | done | omega, ?_⟩)); first | apply hK | (refine ⟨by simp [go_sem, hlt, hx, encG, encEd], ?_⟩; first | apply hK | refine ⟨by simp [go_sem, hlt, hx, encG, encEd], hK _ _ ?_⟩)) | refine ⟨.one (.one (.bool false)), by simp [go_sem, hlt, hx, encG, encEd], hK _ _ ?_⟩ | refine ⟨by first | omega | (simp [z_f, z_g, hlt, hx, encG, encEd]; first | done | omega), ?_⟩ | refine ⟨hK _ ?_, fun h => ?_⟩ | refine ⟨?_, ?_⟩); all_goals ((try apply hK); clear hK K))
      ·have hb : okEdge g x = false := by
        cases hb : okEdge g x with
        | false => rfl
        | true =>
          simp only [okEdge, Bool.and_eq_true, decide_eq_true_eq] at hb
          omega
       have hv := hbad hb
       simp [go_sem, hv]
      ·have hb : okEdge g x = true := by
        simp only [okEdge, h1, h2, Bool.and_eq_true, decide_eq_true_eq, true_and]
        omega
       refine z_j (n - 1) _ (by omega) ⟨k + 1, by omega, ?_, rfl⟩ ?_
       ·rw [all_succ hlt, hall, hx, hb]; rfl
       ·simp [go_sem, encG]
 ·have hkl : g.edges.take k = g.edges := List.take_of_length_le (by omega)
  rw [hkl] at hall
  have c1 := f82s g.start
  have c2 := f82s g.end_
  by_cases h1 : 1 <= g.states
  ·by_cases h2 : g.states <= 200
   ·cases h3 : stateB g g.start with
    | false =>
      have hv : numbered g = false := by simp [numbered, h3]
      rw [h3] at c1
      refine wV (aN hlt <| aN h1 <| aN h2 encG.eq_1) c1 ?_
      simp [go_sem, hv]
    | true =>
      rw [h3] at c1
      cases h4 : stateB g g.end_ with
      | false =>
        have hv : numbered g = false := by simp [numbered, h4]
        rw [h4] at c2
        refine wV (aN hlt <| aN h1 <| aN h2 encG.eq_1) (aN c1 c2) ?_
        simp [go_sem, hv]
      | true =>
        have hv : numbered g = decide (g.edges.length <= 400) := by simp [numbered, h1, h2, h3, h4, hall]
        rw [h4] at c2
        refine wV (aN hlt <| aN h1 <| aN h2 encG.eq_1) (aN c1 c2) ?_
        simp [go_sem, hv]
        omega
   ·have hv : numbered g = false := by simp [numbered, h2]
    refine wX (aN hlt <| aN h1 <| aN h2 encG.eq_1) ?_
    simp [go_sem, hv]
  ·have hv : numbered g = false := by simp [numbered, h1]
   refine wX (aN hlt <| aN h1 encG.eq_1) ?_
   simp [go_sem, hv]
theorem f80 (l : List ByteArray) (x : ByteArray) (hl : l.length <= 1000000) : Impl Tryz.prog 80 [.one (.sl (l.map encS)), .one (.str x)] (.one (.one (.int .i64 (firstB (fun y => y == x) l)))) := by
 refine impl_v ?_
 refine wN ?_
 refine z_k (fun n e => ∃ k : Nat, k + n = l.length /\ (l.take k).any (fun y => y == x) = false /\ e = [(5, .sv (.one (.int .i64 k))), (1, .sv (.one (.str x))), (0, .sv (.one (.sl (l.map encS))))]) l.length _ ⟨0, by simp, by simp, rfl⟩ (by simp [go_sem]) ?_
 rintro n e ⟨k, hk, h0, rfl⟩
 by_cases hlt : k < l.length
 ·cases hx : (l[k] == x) with
  | true =>
    have hf := firstB_at (p := fun y => y == x) hlt h0 hx
    refine wX (aN hlt <| aN encS.eq_1 hx) ?_
    simp [go_sem, hf]
  | false =>
    refine wX (aN hlt <| aN encS.eq_1 hx) ?_
    refine z_j (n - 1) _ (by omega) ⟨k + 1, by omega, ?_, rfl⟩ ?_
    ·rw [any_succ hlt, h0, hx]; rfl
    ·simp [go_sem]
 ·have hkl : l.take k = l := List.take_of_length_le (by omega)
  rw [hkl] at h0
  have hf := firstB_none h0
  refine wX hlt ?_
  simp [go_sem, hf]
set_option maxHeartbeats 64000000
theorem f28 (l : List Int) (hl : l.length <= 1000000) : Impl Tryz.prog 28 [.one (.sl (l.map encN))] (.one (.one (.int .i64 (orV l)))) := by
 obtain ⟨V, hV⟩ : ∃ V, orV l = V := ⟨_, rfl⟩
 rw [hV]
 refine impl_v ?_
 refine wN ?_
 refine z_k (fun q e => ∃ k : Nat, k + q = l.length /\ orV (l.drop k) = V /\ e = [(8, .sv (.one (.int .i64 k))), (7, .sv (.one (.int .i64 l.length))), (6, .sv (.one (.sl (l.map encN)))), (3, .sv (.one (.int .i64 0)))]) l.length _ ⟨0, by simp, hV, rfl⟩ (by simp [go_sem]) ?_
 rintro q e ⟨k, hk, h1, rfl⟩
 by_cases hlt : k < l.length
 ·obtain ⟨x, hx⟩ : ∃ x, l[k] = x := ⟨_, rfl⟩
  rw [List.drop_eq_getElem_cons hlt, hx, orV] at h1
  by_cases h0 : x = 0
  ·rw [if_neg (by simpa using h0)] at h1
   refine wX (aN hlt <| aN hx <| aN h0 encN.eq_1) ?_
   refine z_j (q - 1) _ (by omega) ⟨k + 1, by omega, h1, rfl⟩ ?_
   simp [go_sem]
  ·rw [if_pos h0] at h1
   refine wX (aN hlt <| aN hx <| aN h0 encN.eq_1) ?_
   simp [go_sem, h1]
 ·have hke : k = l.length := by omega
  subst hke
  rw [List.drop_length] at h1
  have h1 : (0 : Int) = V := h1
  refine wN ?_
  simp [go_sem, h1]
theorem f45 (a b : Inter) : Impl Tryz.prog 45 [.ag (encI a), .ag (encI b)] (.one (.one (.int .i64 (ordI a b)))) := by
 have k29 := f29
 have k28 := f28 [cmpI a.from_ b.from_, cmpI a.to b.to, cmpI a.label b.label] (by simp)
 simp only [List.map_cons, List.map_nil, encN] at k28
 refine impl_v ?_
 refine wV encI.eq_1 (aN (fun {x0_ x1_} => k29 x0_ x1_) k28) ?_
 simp [go_sem, ordI]
theorem f44 (x y : Edg) : Impl Tryz.prog 44 [.ag (encEd x), .ag (encEd y)] (.one (.one (.int .i64 (ordX x y)))) := by
 have k45 := f45 x.act y.act
 simp only [encI] at k45
 refine impl_v ?_
 refine wV encEd.eq_1 k45 ?_
 simp [go_sem, ordX]
theorem f27 (a b : Msg) : Impl Tryz.prog 27 [.ag (encMs a), .ag (encMs b)] (.one (.one (.int .i64 (ordM a b)))) := by
 have k29 := f29
 have k28 := f28 [cmpI a.peer b.peer, cmpI a.label b.label] (by simp)
 simp only [List.map_cons, List.map_nil, encN] at k28
 refine impl_v ?_
 refine wV encMs.eq_1 (aN (fun {x0_ x1_} => k29 x0_ x1_) k28) ?_
 simp [go_sem, ordM]
def isM (m : Msg) (x : Fnd) : Bool := x.peer == m.peer && x.label == m.label
theorem f38 (x : Fnd) (m : Msg) : Impl Tryz.prog 38 [.ag (encFd x), .one (.rf (encMs m))] (.one (.one (.bool (isM m x)))) := by
 refine impl_v ?_
 refine wX (aN encFd.eq_1 encMs.eq_1) ?_
 simp [go_sem, isM]
theorem f47 (x : Fnd) (m : Msg) : Impl Tryz.prog 47 [.ag (encFd x), .one (.rf (encMs m))] (.one (.one (.bool (isM m x)))) := by
 refine impl_v ?_
 refine wX (aN encFd.eq_1 encMs.eq_1) ?_
 simp [go_sem, isM]
theorem f37 (l : List Fnd) (g : FuncId) (caps : List DV) (p : Fnd -> Bool) (hl : l.length <= 1000000000000000) (hg : ∀ x ∈ l, Impl Tryz.prog g (.ag (encFd x) :: caps.map .one) (.one (.one (.bool (p x))))) :
  Impl Tryz.prog 37 [.one (.sl (l.map encFd)), .one (.fn g caps)] (.one (.one (.int .i64 (firstB p l)))) := by
 refine impl_v ?_
 refine wN ?_
 refine z_k (fun n e => ∃ k : Nat, k + n = l.length /\ (l.take k).any p = false /\ e = [(8, .sv (.one (.int .i64 k))), (7, .sv (.one (.int .i64 l.length))), (1, .sv (.one (.fn g caps))), (0, .sv (.one (.sl (l.map encFd))))]) l.length _ ⟨0, by simp, by simp, rfl⟩ (by simp [go_sem]) ?_
 rintro n e ⟨k, hk, h0, rfl⟩
 by_cases hlt : k < l.length
 ·have hgs := hg l[k] (List.getElem_mem hlt)
  obtain ⟨x, hx2⟩ : ∃ x, l[k] = x := ⟨_, rfl⟩
  rw [hx2] at hgs
  simp only [encFd] at hgs
  cases hx : p x with
  | true =>
    have hf := firstB_at hlt h0 (by rw [hx2]; exact hx)
    rw [hx] at hgs
    refine wV (aN hlt <| aN hx2 encFd.eq_1) hgs ?_
    simp [go_sem, hf]
  | false =>
    rw [hx] at hgs
    refine wV (aN hlt <| aN hx2 encFd.eq_1) hgs ?_
    refine z_j (n - 1) _ (by omega) ⟨k + 1, by omega, ?_, rfl⟩ ?_
    ·rw [any_succ hlt, h0, hx2, hx]; rfl
    ·simp [go_sem]
 ·have hkl : l.take k = l := List.take_of_length_le (by omega)
  rw [hkl] at h0
  have hf := firstB_none h0
  refine wX hlt ?_
  simp [go_sem, hf]
theorem f46 (l : List Fnd) (g : FuncId) (caps : List DV) (p : Fnd -> Bool) (hl : l.length <= 1000000000000000) (hg : ∀ x ∈ l, Impl Tryz.prog g (.ag (encFd x) :: caps.map .one) (.one (.one (.bool (p x))))) :
  Impl Tryz.prog 46 [.one (.sl (l.map encFd)), .one (.fn g caps)] (.one (.one (.bool (l.any p)))) := by
 refine impl_v ?_
 have hf := firstB_any p l
 refine wC (f37 l g caps p hl hg) ?_
 simp [go_sem, hf]
instance : Inhabited Inter := ⟨⟨0, 0, 0⟩⟩
theorem closed_inters (l : List Inter) : Closed (.ow 3 (l.map encI)) := by
 refine .ow _ _ fun e he d hd => ?_
 obtain ⟨x, _, rfl⟩ := List.mem_map.1 he
 simp only [encI, List.mem_cons, List.not_mem_nil, or_false] at hd
 rcases hd with rfl | rfl | rfl <;> exact .int _ _
theorem f48 (l : List Inter) (hl : l.length <= 1000000) : ImplM Tryz.prog 48 (.ow 3 (l.map encI)) [] (.ow 3 (l.reverse.map encI)) := by
 refine implM_intro z48.f z48.b rfl z48.r z48.n z48.t z48.d (shape_enc (enc := encI) (k := 3) (fun _ => rfl) (by simp)) (closed_inters _) (by simp) (by simp) fun v0 => ?_
 simp only [slotsOf]
 conv => arg 2; reduce
 refine wN ?_
 refine z_k (fun q e => ∃ (k : Nat) (J : Int), 2 * k + q = l.length /\ J = (l.length : Int) - 1 - k /\ e = [(3, .sv (.one (.int .i64 J))), (2, .sv (.one (.int .i64 k))), (1000000, .eqv 0 v0), (0, .sv (.one (.ow 3 ((revA l k).map encI))))]) l.length _ ⟨0, _, by simp, rfl, rfl⟩ (by simp [go_sem, revA]) ?_
 rintro q e ⟨k, J, hq, hJ, rfl⟩
 have hD2 : revA l (k + 1) = swapA (revA l k) k (l.length - 1 - k) := rfl
 have hDl := revA_len l k
 obtain ⟨D, hD⟩ : ∃ D, D = revA l k := ⟨_, rfl⟩
 rw [<- hD] at hD2 hDl ⊢
 by_cases hlt : (k : Int) < J
 ·obtain ⟨j, hj⟩ : ∃ j : Nat, J = j := ⟨J.toNat, by omega⟩
  subst hj
  have hjl : l.length - 1 - k = j := by omega
  rw [hjl] at hD2
  have b1 : k < D.length := by omega
  have b2 : j < D.length := by omega
  obtain ⟨D1, hD1⟩ : ∃ D1, D1 = D.set k D[j] := ⟨_, rfl⟩
  obtain ⟨D2, hDD⟩ : ∃ D2, D2 = revA l (k + 1) := ⟨_, rfl⟩
  have hl1 : D1.length = l.length := by rw [hD1, List.length_set, hDl]
  have hs2 : D1.set j D[k] = D2 := by
   rw [hDD, hD2, hD1, swapA, List.getD_eq_getElem?_getD, List.getD_eq_getElem?_getD, List.getElem?_eq_getElem b1, List.getElem?_eq_getElem b2]
   rfl
  obtain ⟨u, hu⟩ : ∃ u, u = D[k] := ⟨_, rfl⟩
  obtain ⟨v, hv⟩ : ∃ v, v = D[j] := ⟨_, rfl⟩
  rw [<- hv] at hD1
  rw [<- hu] at hs2
  have hset1 : (D.map encI).set k [.int .i64 v.from_, .int .i64 v.to, .int .i64 v.label] = D1.map encI := by rw [show [DV.int .i64 v.from_, .int .i64 v.to, .int .i64 v.label] = encI v from rfl, <- List.map_set, hD1]
  have hset2 : (D1.map encI).set j [.int .i64 u.from_, .int .i64 u.to, .int .i64 u.label] = D2.map encI := by rw [show [DV.int .i64 u.from_, .int .i64 u.to, .int .i64 u.label] = encI u from rfl, <- List.map_set, hs2]
  have g1 : D[k]? = some u := by rw [List.getElem?_eq_getElem b1, hu]
  have g2 : D[j]? = some v := by rw [List.getElem?_eq_getElem b2, hv]
  obtain ⟨v', g3⟩ : ∃ v', D1[j]? = some v' := ⟨_, List.getElem?_eq_getElem (by omega)⟩
  obtain ⟨u', g4⟩ : ∃ u', D1[k]? = some u' := ⟨_, List.getElem?_eq_getElem (by omega)⟩
  refine wX (aN hlt <| aN hDl <| aN hl1 <| aN encI.eq_1 <| aN g1 <| aN g2 <| aN g3 <| aN g4 <| aN hset1 hset2) ?_
  refine z_j (q - 2) _ (by omega) ⟨k + 1, (j : Int) - 1, by omega, by omega, rfl⟩ ?_
  rw [<- hDD]
  simp [go_sem, encI, hset1, hset2]
 ·have hr : D = l.reverse := by rw [hD]; exact revA_rev (by omega) (by omega)
  rw [<- hr]
  refine wX hlt ?_
  simp [go_sem, endsM]
end Go.Av
set_option linter.unusedVariables false
namespace Go.Av
open Go Go.RowKit Go.Proofs
theorem ordI_lt (a b : Inter) : (ordI a b < 0) ↔ (a.from_ < b.from_ \/ (a.from_ = b.from_ /\ (a.to < b.to \/ (a.to = b.to /\ a.label < b.label)))) := by
 have c : ∀ x y : Int, (cmpI x y < 0 /\ cmpI x y ≠ 0 /\ x < y) \/ (cmpI x y = 0 /\ x = y) \/ (0 < cmpI x y /\ cmpI x y ≠ 0 /\ y < x) := fun x y => by
  unfold cmpI
  by_cases h1 : x < y
  ·simp [h1]
  ·by_cases h2 : y < x
   ·simp [h1, h2]
   ·simp [h1, h2]; omega
 simp only [ordI, orV]
 rcases c a.from_ b.from_ with h1 | h1 | h1
 ·rw [if_pos h1.2.1]; omega
 ·rw [if_neg (by omega)]
  rcases c a.to b.to with h2 | h2 | h2
  ·rw [if_pos h2.2.1]; omega
  ·rw [if_neg (by omega)]
   rcases c a.label b.label with h3 | h3 | h3
   ·rw [if_pos h3.2.1]; omega
   ·rw [if_neg (by omega)]; omega
   ·rw [if_pos h3.2.1]; omega
  ·rw [if_pos h2.2.1]; omega
 ·rw [if_pos h1.2.1]; omega
theorem swoE : Go.Sort.SWO (Go.Proofs.ltOf ordX) where
 irrefl x := by simp only [Go.Proofs.ltOf, ordX, decide_eq_false_iff_not, ordI_lt]; omega
 trans x y z h1 h2 := by simp only [Go.Proofs.ltOf, ordX, decide_eq_true_eq, ordI_lt] at *; omega
 ntrans x y z h1 h2 := by simp only [Go.Proofs.ltOf, ordX, decide_eq_false_iff_not, ordI_lt] at *; omega
theorem nodup_le : ∀ (n : Nat) (l : List Nat), l.Nodup -> (∀ x ∈ l, x < n) -> l.length <= n
 | 0, l, _, h => by
   cases l with
   | nil => simp
   | cons x l => exact absurd (h x (by simp)) (by omega)
 | n + 1, l, hd, h => by
   have h1 := nodup_le n (l.erase n) (hd.erase n) fun x hx => by
    have hx1 := h x (List.mem_of_mem_erase hx)
    have hx2 : x ≠ n := fun e => by
     subst e
     exact (List.Nodup.not_mem_erase hd) hx
    omega
   by_cases hm : n ∈ l
   ·rw [List.length_erase_of_mem hm] at h1
    omega
   ·rw [List.erase_of_not_mem hm] at h1
    omega
def codeV (v : Vs) : Nat := (v.st.toNat * 64 + v.bl) * 64 + v.sn
structure VsOk (g : Glob) (v : Vs) : Prop where
 st0 : 0 <= v.st
 st1 : v.st < g.states
 bl : v.bl < 64
 sn : v.sn < 64
structure EdB (g : Glob) : Prop where
 states : g.states <= 200
 edge : ∀ x ∈ g.edges, 0 <= x.from_ /\ x.from_ < g.states /\ 0 <= x.to /\ x.to < g.states /\ 0 <= x.act.from_ /\ x.act.from_ < 6 /\ 0 <= x.act.to /\ x.act.to < 6 /\ x.act.from_ ≠ x.act.to
theorem setB_lt {n : Nat} {r : Int} (hn : n < 64) (h0 : 0 <= r) (h1 : r < 6) : setB n r < 64 := by
 have : r = 0 \/ r = 1 \/ r = 2 \/ r = 3 \/ r = 4 \/ r = 5 := by omega
 unfold setB
 refine Nat.or_lt_two_pow (n := 6) hn ?_
 rcases this with rfl | rfl | rfl | rfl | rfl | rfl <;> decide
theorem hasB_set {n : Nat} {r q : Int} (hr : 0 <= r) (hq : 0 <= q) : hasB (setB n r) q = (hasB n q || decide (q = r)) := by
 unfold hasB setB
 rw [Nat.testBit_or, Nat.one_shiftLeft, Nat.testBit_two_pow]
 congr 1
 by_cases h : q = r
 ·subst h; simp
 ·have : ¬ r.toNat = q.toNat := by omega
  simp [h, this]
theorem outE_mem {g : Glob} {s : Int} {x : Edg} : x ∈ outE g s ↔ x ∈ g.edges /\ x.from_ = s := by
 unfold outE
 rw [(insL_perm ordX _).mem_iff, List.mem_filter]
 simp
theorem nxtV_ok {g : Glob} (hg : EdB g) {p : Int} {v : Vs} (hv : VsOk g v) {x : Edg} (hx : x ∈ g.edges) : VsOk g (nxtV p v x) := by
 obtain ⟨h1, h2, h3, h4, h5, h6, h7, h8, h9⟩ := hg.edge x hx
 unfold nxtV
 split
 ·exact ⟨h3, h4, setB_lt hv.bl h7 h8, hv.sn⟩
 ·split
  ·exact ⟨h3, h4, hv.bl, setB_lt hv.sn h5 h6⟩
  ·exact ⟨h3, h4, hv.bl, hv.sn⟩
theorem same_code {g : Glob} {v w : Vs} (hv : VsOk g v) (hw : VsOk g w) : codeV v = codeV w ↔ sameV v w = true := by
 have := hv.bl; have := hv.sn; have := hw.bl; have := hw.sn; have := hv.st0; have := hw.st0
 unfold codeV sameV
 simp only [Bool.and_eq_true, beq_iff_eq]
 omega
structure QOk (g : Glob) (q : List Vs) : Prop where
 ok : ∀ v ∈ q, VsOk g v
 nodup : (q.map codeV).Nodup
theorem queue_len {g : Glob} (hg : EdB g) {q : List Vs} (h : QOk g q) : q.length <= 819200 := by
 have := nodup_le 819200 (q.map codeV) h.nodup fun c hc => by
  obtain ⟨v, hv, rfl⟩ := List.mem_map.1 hc
  obtain ⟨h1, h2, h3, h4⟩ := h.ok v hv
  have := hg.states
  unfold codeV
  omega
 simpa using this
theorem addV_ok {g : Glob} {q : List Vs} (h : QOk g q) {w : Vs} (hw : VsOk g w) : QOk g (addV q w) := by
 unfold addV
 split
 ·exact h
 ·rename_i hn
  refine ⟨fun v hv => ?_, ?_⟩
  ·rcases List.mem_append.1 hv with hv | hv
   ·exact h.ok v hv
   ·rw [List.mem_singleton.1 hv]; exact hw
  ·rw [List.map_append, List.nodup_append]
   refine ⟨h.nodup, by simp, fun a ha b hb => ?_⟩
   obtain ⟨v, hv, rfl⟩ := List.mem_map.1 ha
   have hb : b = codeV w := by simpa using hb
   subst hb
   intro e
   have := (same_code hw (h.ok v hv)).1 e.symm
   exact hn (List.any_eq_true.2 ⟨v, hv, this⟩)
theorem stepV_ok {g : Glob} (hg : EdB g) {p : Int} {v : Vs} (hv : VsOk g v) {s : List Vs × List Fnd} (hs : QOk g s.1) {x : Edg} (hx : x ∈ g.edges) : QOk g (stepV p v s x).1 := addV_ok hs (nxtV_ok hg hv hx)
theorem foldV_ok {g : Glob} (hg : EdB g) {p : Int} {v : Vs} (hv : VsOk g v) : ∀ (xs : List Edg) {s : List Vs × List Fnd}, (∀ x ∈ xs, x ∈ g.edges) -> QOk g s.1 -> QOk g (xs.foldl (stepV p v) s).1
 | [], _, _, hs => hs
 | x :: xs, s, hx, hs => foldV_ok hg hv xs (fun y hy => hx y (List.mem_cons_of_mem _ hy)) (stepV_ok hg hv hs (hx x (by simp)))
end Go.Av
