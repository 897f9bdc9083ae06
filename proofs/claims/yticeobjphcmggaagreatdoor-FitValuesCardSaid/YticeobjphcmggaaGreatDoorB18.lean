/- Part of a proof. -/
import Derived.Test.YticeobjphcmggaaGreatDoorAvR
import Derived.Test.YticeobjphcmggaaGreatDoorB10
import Derived.Test.YticeobjphcmggaaGreatDoorB17
set_option linter.unusedVariables false
set_option linter.unusedSimpArgs false
set_option maxHeartbeats 64000000
set_option maxRecDepth 8000
namespace Go.Av
open Go Go.RowKit Go.Proofs
set_option maxHeartbeats 64000000
def units (l : List Dcl) (k : Nat) : Nat := ((l.take k).map fun d => d.fields.length + (d.diffs.length + d.equals.length)).sum
def fewD (l : List Dcl) : Bool := decide (l.length <= 60) && decide (units l l.length <= 100)
theorem units_succ {l : List Dcl} {k : Nat} (h : k < l.length) : units l (k + 1) = units l k + (l[k].fields.length + (l[k].diffs.length + l[k].equals.length)) := by
 unfold units
 rw [List.take_succ_eq_append_getElem h, List.map_append, List.sum_append]
 simp
theorem units_le {l : List Dcl} {M : Nat} (h : ∀ d ∈ l, d.fields.length <= M /\ d.diffs.length <= M /\ d.equals.length <= M) : ∀ k, k <= l.length -> units l k <= k * (3 * M)
 | 0, _ => by simp [units]
 | k + 1, hk => by
   have := units_le h k (by omega)
   have hd := h l[k] (List.getElem_mem (by omega))
   rw [units_succ (by omega), Nat.add_mul]
   omega
theorem f45 (l : List Dcl) (hl : l.length <= 1000000000000000) (hp : ∀ d ∈ l, d.fields.length <= 1000000000000000 /\ d.diffs.length <= 1000000000000000 /\ d.equals.length <= 1000000000000000) : Impl Tryz.prog 45 [.one (.sl (l.map encD))] (.one (.one (.bool (fewD l)))) := by
 refine impl_v ?_
 by_cases h60 : l.length <= 60
 ·have hle := units_le hp
  refine wN ?_
  refine z_k (fun n e => ∃ i : Nat, i + n = l.length /\ e = [(4, .sv (.one (.int .i64 i))), (3, .sv (.one (.int .i64 (units l i)))), (0, .sv (.one (.sl (l.map encD))))]) l.length _ ⟨0, by simp, rfl⟩ (by simp [go_sem, units]) ?_
  rintro n e ⟨i, hi, rfl⟩
  have hui := hle i (by omega)
  by_cases hlt : i < l.length
  ·obtain ⟨d, hd⟩ : ∃ d, l[i] = d := ⟨_, rfl⟩
   have hdp := hp l[i] (List.getElem_mem hlt)
   have hsu := units_succ hlt
   rw [hd] at hdp hsu
   obtain ⟨h1, h2, h3⟩ := hdp
   obtain ⟨u, hu⟩ : ∃ u, units l i = u := ⟨_, rfl⟩
   rw [hu] at hui hsu ⊢
   refine wX (aN hlt <| aN hd encD.eq_1) ?_
   refine z_j (n - 1) _ (by omega) ⟨i + 1, by omega, rfl⟩ ?_
   rw [hsu]
   simp [go_sem]
   omega
  ·have hie : i = l.length := by omega
   have hv : fewD l = (decide ((l.length : Int) <= 60) && decide ((units l i : Int) <= 100)) := by
    unfold fewD
    rw [hie, Bool.eq_iff_iff]
    simp
    omega
   obtain ⟨u, hu⟩ : ∃ u, units l i = u := ⟨_, rfl⟩
   rw [hu] at hv ⊢
   have h60' : (l.length : Int) <= 60 := by omega
   refine wX (aN hlt h60') ?_
   simp [go_sem, hv, h60']
 ·have hv : fewD l = false := by
   unfold fewD
   simp [h60]
  have h60' : ¬ (l.length : Int) <= 60 := by omega
  refine wN ?_
  refine z_k (fun n e => ∃ (i : Nat) (u : Int), i + n = l.length /\ e = [(4, .sv (.one (.int .i64 i))), (3, .sv (.one (.int .i64 u))), (0, .sv (.one (.sl (l.map encD))))]) l.length _ ⟨0, 0, by simp, rfl⟩ (by simp [go_sem]) ?_
  rintro n e ⟨i, u, hi, rfl⟩
  by_cases hlt : i < l.length
  ·obtain ⟨d, hd⟩ : ∃ d, l[i] = d := ⟨_, rfl⟩
   have hdp := hp l[i] (List.getElem_mem hlt)
   rw [hd] at hdp
   obtain ⟨h1, h2, h3⟩ := hdp
   refine wX (aN hlt <| aN hd encD.eq_1) ?_
   refine z_j (n - 1) _ (by omega) ⟨i + 1, IntKind.i64.wrap (u + (d.fields.length + d.diffs.length + d.equals.length)), by omega, rfl⟩ ?_
   simp [go_sem]
  ·have hie : i = l.length := by omega
   refine wX (aN hlt h60') ?_
   simp [go_sem, hv]
def fewG (g : Glob) : Bool := decide (g.states <= 40) && decide (g.edges.length <= 80) && decide (g.timeouts.length <= 40) && decide (g.roles.length <= 10) && fewD g.decls
theorem f25 (g : Glob) (hl : g.decls.length <= 1000000000000000) (hp : ∀ d ∈ g.decls, d.fields.length <= 1000000000000000 /\ d.diffs.length <= 1000000000000000 /\ d.equals.length <= 1000000000000000) : Impl Tryz.prog 25 [.ag (encG g)] (.one (.one (.bool (fewG g)))) := by
 have c1 := f45 g.decls hl hp
 refine impl_v ?_
 have hv : fewG g = (decide (g.states <= 40) && decide ((g.edges.length : Int) <= 80) && decide ((g.timeouts.length : Int) <= 40) && decide ((g.roles.length : Int) <= 10) && fewD g.decls) := by
  unfold fewG
  rw [Bool.eq_iff_iff]
  simp
  omega
 obtain ⟨V, hV⟩ : ∃ V, fewG g = V := ⟨_, rfl⟩
 rw [hV] at hv ⊢
 by_cases h1 : g.states <= 40
 ·by_cases h2 : (g.edges.length : Int) <= 80
  ·by_cases h3 : (g.timeouts.length : Int) <= 40
   ·by_cases h4 : (g.roles.length : Int) <= 10
    ·refine wV (aN encG.eq_1 <| aN h1 <| aN h2 <| aN h3 h4) c1 ?_
     simp [go_sem, hv, h1, h2, h3, h4]
    ·refine wX (aN encG.eq_1 <| aN h1 <| aN h2 <| aN h3 h4) ?_
     simp [go_sem, hv, h4]
   ·refine wX (aN encG.eq_1 <| aN h1 <| aN h2 h3) ?_
    simp [go_sem, hv, h3]
  ·refine wX (aN encG.eq_1 <| aN h1 h2) ?_
   simp [go_sem, hv, h2]
 ·refine wX (aN encG.eq_1 h1) ?_
  simp [go_sem, hv, h1]
set_option maxHeartbeats 64000000
def rawA (l : List Inter) (c : Int) : DV := if c = 1 then .nil else .ow 3 (l.map encI)
theorem f12 (g : Glob) (H : List (List Ev)) (hs : Small g) (hl : H.length <= 1000000) (hh : ∀ l ∈ H, l.length <= 1000000) :
  Impl Tryz.prog 12 [.ag (encG g), .one (.sl (H.map encH))] (.tup [.one (rawA (actsF g (searchF g H).1) (searchF g H).2), .one (.int .i64 (searchF g H).2)]) := by
 have k27 := f27 g H hs hl hh
 have k28 := f28 g H hs hh
 have hso : ∀ l c, searchF g H = (some l, c) -> _ := fun l c => search_ok
 simp only [encG] at k27 k28
 refine impl_v ?_
 cases hg : goodF g H with
 | false =>
   rw [hg] at k27
   have hr : searchF g H = (none, 1) := by unfold searchF; rw [hg]; rfl
   rw [hr]
   refine wV encG.eq_1 k27 ?_
   simp [go_sem, rawA]
 | true =>
   rw [hg] at k27
   have k28 := k28 hg
   have hr : searchF g H = findL g H 20001 0 [firstN g H] := by unfold searchF; rw [hg]; rfl
   have hc1 := findL_ne1 g H 20001 0 [firstN g H]
   rw [<- hr] at k28 hc1
   generalize searchF g H = r at *
   obtain ⟨o, c⟩ := r
   have hraw : ∀ l, rawA l c = .ow 3 (l.map encI) := fun l => by
    unfold rawA
    rw [if_neg hc1]
   cases o with
   | none =>
     simp only [resS] at k28
     refine wV encG.eq_1 (aN k27 k28) ?_
     refine z_k (fun n e => n = 0 /\ e = [(9, .sv (.one (.int .i64 0))), (8, .sv (.one (.ow 3 []))), (7, .sv (.one (.int .i64 c))), (6, .sv (.one .nil))]) 0 _ ⟨rfl, rfl⟩ (by simp [go_sem]) ?_
     rintro n e ⟨_, rfl⟩
     refine wN ?_
     simp [go_sem, actsF, hraw]
   | some l =>
     obtain ⟨hok, hll, rfl⟩ := hso l c rfl
     simp only [resS] at k28
     refine wV encG.eq_1 (aN k27 k28) ?_
     refine z_k (fun n e => ∃ (j : Nat) (A : List Inter), j + n = l.length /\ A = (l.take j).map (actAt g) /\ e = [(9, .sv (.one (.int .i64 j))), (8, .sv (.one (.ow 3 (A.map encI)))), (7, .sv (.one (.int .i64 0))), (6, .sv (.one (.ow 1 (l.map encN)))), (2, .sv (.one (.bx (encG g))))]) l.length _ ⟨0, [], by simp, by simp, rfl⟩ (by simp [go_sem, encG]) ?_
     rintro n e ⟨j, A, hj, hA, rfl⟩
     by_cases hlt : j < l.length
     ·obtain ⟨k, hk⟩ : ∃ k, l[j] = k := ⟨_, rfl⟩
      obtain ⟨hk0, hk1⟩ := hok k (hk ▸ List.getElem_mem hlt)
      obtain ⟨x, hx⟩ : ∃ x, g.edges[k.toNat] = x := ⟨_, rfl⟩
      have hAl : A.length <= 20000 := by rw [hA]; simp; omega
      have hap := okI_of (els := A.map encI) (news := [encI x.act]) (fun e he => ⟨x.act, List.mem_singleton.1 he⟩) (by simp; omega)
      simp only [encI] at hap
      refine wX (aN hlt <| aN hk <| aN hk0 <| aN hk1 <| aN hx <| aN encN.eq_1 <| aN encEd.eq_1 <| aN encG.eq_1 hap) ?_
      refine z_j (n - 1) _ (by omega) ⟨j + 1, A ++ [x.act], by omega, by rw [List.take_succ_eq_append_getElem hlt, hk, List.map_append, hA, <- actAt_eq hk1 hx]; rfl, rfl⟩ ?_
      simp [go_sem, encG, encI]
     ·have hkj : l.take j = l := List.take_of_length_le (by omega)
      rw [hkj] at hA
      subst hA
      refine wX hlt ?_
      simp [go_sem, actsF, hraw]
theorem f13 (a b : List Inter) (ha : a.length <= 1000000) (hb : b.length <= 1000000) : Impl Tryz.prog 13 [.one (.sl (a.map encI)), .one (.sl (b.map encI))] (.one (.one (.bool (decide (a = b))))) := by
 refine impl_v ?_
 by_cases hlen : a.length = b.length
 rotate_left
 ·have hne : a ≠ b := fun e => hlen (by rw [e])
  have hlen2 : ¬ (a.length : Int) = b.length := by omega
  refine wX (aN hlen hlen2) ?_
  simp [go_sem, hne]
 have hlen2 : (a.length : Int) = b.length := by omega
 refine wX hlen2 ?_
 refine z_k (fun n e => ∃ k, k + n = a.length /\ a.take k = b.take k /\ e = [(5, .sv (.one (.int .i64 (k : Nat)))), (0, .sv (.one (.sl (a.map encI)))), (1, .sv (.one (.sl (b.map encI))))]) a.length _ ⟨0, by simp, by simp, rfl⟩ (by simp [go_sem]) ?_
 rintro n e ⟨k, hk, htk, rfl⟩
 by_cases hlt : k < a.length
 ·have hlt' : k < b.length := by omega
  obtain ⟨x, hx⟩ : ∃ x, a[k] = x := ⟨_, rfl⟩
  obtain ⟨y, hy⟩ : ∃ y, b[k] = y := ⟨_, rfl⟩
  by_cases hxy : x = y
  ·subst hxy
   refine wX (aN hlt <| aN hlt' <| aN hx <| aN hy encI.eq_1) ?_
   refine z_j (n - 1) _ (by omega) ⟨k + 1, by omega, ?_, rfl⟩ ?_
   ·rw [List.take_succ_eq_append_getElem hlt, List.take_succ_eq_append_getElem hlt', htk, hx, hy]
   ·simp [go_sem]
  ·have hne : a ≠ b := fun e => hxy (by rw [<- hx, <- hy]; simp only [e])
   have hab : (x.from_ == y.from_ && (x.to == y.to && x.label == y.label)) = false := by
    rw [Bool.eq_false_iff]
    intro h
    simp only [Bool.and_eq_true, beq_iff_eq] at h
    apply hxy
    cases x; cases y; simp_all
   refine wX (aN hlt <| aN hlt' <| aN hx <| aN hy <| aN hab encI.eq_1) ?_
   simp [go_sem, hne]
 ·have hab : a = b := by
   rw [List.take_of_length_le (by omega), List.take_of_length_le (by omega)] at htk
   exact htk
  refine wX hlt ?_
  simp [go_sem, hab]
def sumH (H : List (List Ev)) : Nat := (H.map List.length).sum
def fewF (g : Glob) (H : List (List Ev)) (n : Int) : Bool := fewG g && (decide (g.states <= 20) && (decide (g.decls.length <= 8) && (decide (H.length <= 8) && decide ((sumH H : Int) <= n))))
theorem sumH_succ {H : List (List Ev)} {k : Nat} (h : k < H.length) : sumH (H.take (k + 1)) = sumH (H.take k) + H[k].length := by
 unfold sumH
 rw [List.take_succ_eq_append_getElem h, List.map_append, List.sum_append]
 simp
theorem sumH_le (b : Nat) : ∀ (H : List (List Ev)), (∀ l ∈ H, l.length <= b) -> sumH H <= H.length * b
 | [], _ => by simp [sumH]
 | h :: H, hb => by
   have h1 := sumH_le b H fun l hl => hb l (List.mem_cons_of_mem _ hl)
   have h2 := hb h (by simp)
   unfold sumH at *
   simp only [List.map_cons, List.sum_cons, List.length_cons]
   rw [Nat.add_mul]
   omega
set_option maxHeartbeats 64000000
theorem f10 (g : Glob) (H : List (List Ev)) (n : Int) (hgl : g.decls.length <= 1000000000000000) (hp : ∀ d ∈ g.decls, d.fields.length <= 1000000000000000 /\ d.diffs.length <= 1000000000000000 /\ d.equals.length <= 1000000000000000) (hl : H.length <= 1000000000000000) (hh : ∀ l ∈ H, l.length <= 1000000000000000) :
  Impl Tryz.prog 10 [.ag (encG g), .one (.sl (H.map encH)), .one (.int .i64 n)] (.one (.one (.bool (fewF g H n)))) := by
 have k25 := f25 g hgl hp
 simp only [encG] at k25
 refine impl_v ?_
 by_cases h8 : H.length <= 8
 rotate_left
 ·have hf : fewF g H n = false := by
   unfold fewF
   rw [decide_eq_false h8]
   simp
  rw [hf]
  refine wX encG.eq_1 ?_
  refine z_k (fun q e => ∃ (k : Nat) (m : Int), k + q = H.length /\ e = [(12, .sv (.one (.int .i64 k))), (11, .sv (.one (.int .i64 H.length))), (10, .sv (.one (.sl (H.map encH)))), (7, .sv (.one (.int .i64 m))), (6, .sv (.one (.bool false))), (3, .sv (.one (.bx (encG g)))), (2, .sv (.one (.int .i64 n))), (1, .sv (.one (.sl (H.map encH))))]) H.length _ ⟨0, 0, by simp, rfl⟩ (by simp [go_sem, encG]) ?_
  rintro q e ⟨k, m, hk, rfl⟩
  by_cases hlt : k < H.length
  ·obtain ⟨h1, hh1⟩ : ∃ h, H[k] = h := ⟨_, rfl⟩
   refine wX (aN hlt <| aN hh1 encH.eq_1) ?_
   refine z_j (q - 1) _ (by omega) ⟨k + 1, IntKind.i64.wrap (m + (h1.length : Int)), by omega, rfl⟩ ?_
   simp [go_sem, encG]
  ·have h8' : ¬ (H.length : Int) <= 8 := by omega
   cases hfw : fewG g with
   | false =>
     rw [hfw] at k25
     refine wV (aN hlt <| aN encG.eq_1 <| aN h8 h8') k25 ?_
     simp [go_sem]
   | true =>
     rw [hfw] at k25
     by_cases hst : g.states <= 20
     ·by_cases hd : g.decls.length <= 8
      ·have hd' : (g.decls.length : Int) <= 8 := by omega
       refine wV (aN hlt <| aN encG.eq_1 <| aN h8 <| aN h8' <| aN hst <| aN hd hd') k25 ?_
       simp [go_sem]
      ·have hd' : ¬ (g.decls.length : Int) <= 8 := by omega
       refine wV (aN hlt <| aN encG.eq_1 <| aN h8 <| aN h8' <| aN hst <| aN hd hd') k25 ?_
       simp [go_sem]
     ·refine wV (aN hlt <| aN encG.eq_1 <| aN h8 <| aN h8' hst) k25 ?_
      simp [go_sem]
 have hsl := sumH_le 1000000000000000 H hh
 have htk : ∀ k, sumH (H.take k) <= 8000000000000000 := fun k => by
  have := sumH_le 1000000000000000 (H.take k) fun l hl' => hh l (List.mem_of_mem_take hl')
  have h2 : (H.take k).length <= 8 := by rw [List.length_take]; omega
  omega
 refine wX encG.eq_1 ?_
 refine z_k (fun q e => ∃ k : Nat, k + q = H.length /\ e = [(12, .sv (.one (.int .i64 k))), (11, .sv (.one (.int .i64 H.length))), (10, .sv (.one (.sl (H.map encH)))), (7, .sv (.one (.int .i64 (sumH (H.take k))))), (6, .sv (.one (.bool false))), (3, .sv (.one (.bx (encG g)))), (2, .sv (.one (.int .i64 n))), (1, .sv (.one (.sl (H.map encH))))]) H.length _ ⟨0, by simp, rfl⟩ (by simp [go_sem, encG, sumH]) ?_
 rintro q e ⟨k, hk, rfl⟩
 have hk8 := htk k
 by_cases hlt : k < H.length
 ·obtain ⟨h1, hh1⟩ : ∃ h, H[k] = h := ⟨_, rfl⟩
  have hl1 : h1.length <= 1000000000000000 := hh _ (hh1 ▸ List.getElem_mem hlt)
  have hsu := sumH_succ hlt
  rw [hh1] at hsu
  obtain ⟨s, hse⟩ : ∃ s, sumH (H.take k) = s := ⟨_, rfl⟩
  rw [hse] at hk8 hsu ⊢
  refine wX (aN hlt <| aN hh1 encH.eq_1) ?_
  refine z_j (q - 1) _ (by omega) ⟨k + 1, by omega, rfl⟩ ?_
  simp [go_sem, encG, hsu]
 ·have hkl : H.take k = H := List.take_of_length_le (by omega)
  rw [hkl]
  obtain ⟨s, hse⟩ : ∃ s, sumH H = s := ⟨_, rfl⟩
  have h8' : (H.length : Int) <= 8 := by omega
  unfold fewF
  rw [hse, decide_eq_true h8]
  cases hfw : fewG g with
  | false =>
    rw [hfw] at k25
    refine wV (aN hlt <| aN encG.eq_1 <| aN h8 h8') k25 ?_
    simp [go_sem]
  | true =>
    rw [hfw] at k25
    by_cases hst : g.states <= 20
    ·by_cases hd : g.decls.length <= 8
     ·have hd' : (g.decls.length : Int) <= 8 := by omega
      refine wV (aN hlt <| aN encG.eq_1 <| aN h8 <| aN h8' <| aN hst <| aN hd hd') k25 ?_
      simp [go_sem, hst, hd]
     ·have hd' : ¬ (g.decls.length : Int) <= 8 := by omega
      refine wV (aN hlt <| aN encG.eq_1 <| aN h8 <| aN h8' <| aN hst <| aN hd hd') k25 ?_
      simp [go_sem, hst, hd]
    ·refine wV (aN hlt <| aN encG.eq_1 <| aN h8 <| aN h8' hst) k25 ?_
     simp [go_sem, hst]
theorem f56 (l : List Edg) (g : FuncId) (caps : List DV) (p : Edg -> Bool) (hl : l.length <= 1000000) (hg : ∀ x ∈ l, Impl Tryz.prog g (.ag (encEd x) :: caps.map .one) (.one (.one (.bool (p x))))) :
  Impl Tryz.prog 56 [.one (.sl (l.map encEd)), .one (.fn g caps)] (.one (.one (.int .i64 (firstB p l)))) := by
 refine impl_v ?_
 refine wN ?_
 refine z_k (fun n e => ∃ k : Nat, k + n = l.length /\ (l.take k).any p = false /\ e = [(8, .sv (.one (.int .i64 k))), (7, .sv (.one (.int .i64 l.length))), (1, .sv (.one (.fn g caps))), (0, .sv (.one (.sl (l.map encEd))))]) l.length _ ⟨0, by simp, by simp, rfl⟩ (by simp [go_sem]) ?_
 rintro n e ⟨k, hk, h0, rfl⟩
 by_cases hlt : k < l.length
 ·have hgs := hg l[k] (List.getElem_mem hlt)
  simp only [encEd] at hgs
  cases hx : p l[k] with
  | true =>
    have hf := firstB_at hlt h0 hx
    rw [hx] at hgs
    refine wV (aN hlt encEd.eq_1) hgs ?_
    simp [go_sem, hf]
  | false =>
    rw [hx] at hgs
    refine wV (aN hlt encEd.eq_1) hgs ?_
    refine z_j (n - 1) _ (by omega) ⟨k + 1, by omega, ?_, rfl⟩ ?_
    ·rw [any_succ hlt, h0, hx]; rfl
    ·simp [go_sem]
 ·have hkl : l.take k = l := List.take_of_length_le (by omega)
  rw [hkl] at h0
  have hf := firstB_none h0
  refine wX hlt ?_
  simp [go_sem, hf]
theorem f29 (l : List Edg) (g : FuncId) (caps : List DV) (p : Edg -> Bool) (hl : l.length <= 1000000) (hg : ∀ x ∈ l, Impl Tryz.prog g (.ag (encEd x) :: caps.map .one) (.one (.one (.bool (p x))))) :
  Impl Tryz.prog 29 [.one (.sl (l.map encEd)), .one (.fn g caps)] (.one (.one (.bool (l.any p)))) := by
 refine impl_v ?_
 have hf := firstB_any p l
 refine wC (f56 l g caps p hl hg) ?_
 simp [go_sem, hf]
def hasA (a : Inter) (x : Edg) : Bool := x.act.from_ == a.from_ && (x.act.to == a.to && x.act.label == a.label)
theorem f30 (x : Edg) (a : Inter) : Impl Tryz.prog 30 [.ag (encEd x), .one (.rf (encI a))] (.one (.one (.bool (hasA a x)))) := by
 refine impl_v ?_
 refine wX (aN encEd.eq_1 encI.eq_1) ?_
 simp [go_sem, hasA, Bool.and_assoc]
theorem flat_encE (x : Ev) : (encE x).all DV.flat = true := by
 simp only [encE, List.all_cons, List.all_nil, flat_vals]
 rfl
theorem appendOk_e {l m : List Ev} (h : l.length + m.length <= 100000000) : z_f 5 56 (l.map encE) (m.map encE) := by
 refine ⟨?_, ?_, by omega, ?_, ?_⟩
 ·intro e he
  obtain ⟨z, _, rfl⟩ := List.mem_map.1 he
  exact flat_encE z
 ·intro e he
  obtain ⟨z, _, rfl⟩ := List.mem_map.1 he
  rfl
 ·simp only [List.length_map, maxLen]; omega
 ·simp only [List.length_map]; omega
theorem f32 (l : List Ev) (hl : l.length <= 1000000) : Impl Tryz.prog 32 [.one (.sl (l.map encE))] (.one (.one (.ow 5 (l.map encE)))) := by
 refine impl_v ?_
 have hap := appendOk_e (l := []) (m := l) (by simp; omega)
 simp only [List.map_nil] at hap
 repeat' first | refine St.go ?_ | ((with_reducible refine cn ?_ ?_) <;> intro h <;> (try simp at h) <;> try omega) | (refine Ru.go ?_; intro K hK; simp [go_sem, hap]; (try simp (disch := omega) only [wx, z_i]); (first | apply hK | refine ⟨by first | omega | (simp [z_f, z_g, hap]; first | done | omega), ?_⟩ | refine ⟨hK _ ?_, fun h => ?_⟩ | refine ⟨?_, ?_⟩); all_goals ((try apply hK); clear hK K))
 all_goals simp_all [go_sem]
end Go.Av
