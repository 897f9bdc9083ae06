/- Part of a proof. -/
import Derived.Test.YticeobjphcmggaaGreatDoorB08
import Derived.Test.YticeobjphcmggaaGreatDoorB16
set_option linter.unusedVariables false
set_option linter.unusedSimpArgs false
set_option maxHeartbeats 64000000
set_option maxRecDepth 8000
namespace Go.Av
open Go Go.RowKit Go.Proofs
def units (l : List Dcl) (k : Nat) : Nat := ((l.take k).map fun d => d.fields.length + (d.diffs.length + d.equals.length)).sum
def fewD (l : List Dcl) : Bool := decide (l.length <= 60) && decide (units l l.length <= 100)
theorem units_succ {l : List Dcl} {k : Nat} (h : k < l.length) : units l (k + 1) = units l k + (l[k].fields.length + (l[k].diffs.length + l[k].equals.length)) := by
 unfold units
 rw [List.take_succ_eq_append_getElem h, List.map_append, List.sum_append]
 simp
theorem units_le {l : List Dcl} {M : Nat} (h : ∀ d ∈ l, d.fields.length <= M /\ d.diffs.length <= M /\ d.equals.length <= M) : ∀ k, k <= l.length -> units l k <= k * (3 * M)
 | 0, _ => by simp [units]
 | k + 1, hk => by
   have := units_le h k (by omega)
   have hd := h l[k] (List.getElem_mem (by omega))
   rw [units_succ (by omega), Nat.add_mul]
   omega
theorem f45 (l : List Dcl) (hl : l.length <= 1000000000000000) (hp : ∀ d ∈ l, d.fields.length <= 1000000000000000 /\ d.diffs.length <= 1000000000000000 /\ d.equals.length <= 1000000000000000) : Impl Tryz.prog 45 [.one (.sl (l.map encD))] (.one (.one (.bool (fewD l)))) := by
 refine impl_w Tryz.func45 z45 Tryz.ntmps45 (by simp) ?_
 simp only [slotsOf]
 conv => arg 2; reduce
 by_cases h60 : l.length <= 60
 ·have hle := units_le hp
  repeat' first | refine St.go ?_ | ((with_reducible refine cn ?_ ?_) <;> intro h <;> (try simp at h) <;> try omega) | (refine Ru.go ?_; intro K hK; simp [go_sem]; (try simp (disch := omega) only [wx, z_i]); (first | apply hK | refine ⟨ob, ?_⟩ | refine ⟨hK _ ?_, fun h => ?_⟩ | refine ⟨?_, ?_⟩); all_goals ((try apply hK); clear hK K))
  refine z_k (fun n e => ∃ i : Nat, i + n = l.length /\ e = [(4, .sv (.one (.int .i64 i))), (3, .sv (.one (.int .i64 (units l i)))), (0, .sv (.one (.sl (l.map encD))))]) l.length _ ⟨0, by simp, rfl⟩ (by simp [go_sem, units]) ?_
  rintro n e ⟨i, hi, rfl⟩
  have hui := hle i (by omega)
  by_cases hlt : i < l.length
  ·obtain ⟨d, hd⟩ : ∃ d, l[i] = d := ⟨_, rfl⟩
   have hdp := hp l[i] (List.getElem_mem hlt)
   have hsu := units_succ hlt
   rw [hd] at hdp hsu
   obtain ⟨h1, h2, h3⟩ := hdp
   obtain ⟨u, hu⟩ : ∃ u, units l i = u := ⟨_, rfl⟩
   rw [hu] at hui hsu ⊢
   repeat' first | refine St.go ?_ | ((with_reducible refine cn ?_ ?_) <;> intro h <;> (try simp [hlt, hd] at h) <;> try omega) | (refine Ru.go ?_; intro K hK; simp [go_sem, hlt, hd, encD]; (try simp (disch := omega) only [wx, z_i]); (first | apply hK | refine ⟨ob, ?_⟩ | refine ⟨hK _ ?_, fun h => ?_⟩ | refine ⟨?_, ?_⟩); all_goals ((try apply hK); clear hK K))
   refine z_j (n - 1) _ (by omega) ⟨i + 1, by omega, rfl⟩ ?_
   rw [hsu]
   simp [go_sem]
   omega
  ·have hie : i = l.length := by omega
   have hv : fewD l = (decide ((l.length : Int) <= 60) && decide ((units l i : Int) <= 100)) := by
    unfold fewD
    rw [hie, Bool.eq_iff_iff]
    simp
    omega
   obtain ⟨u, hu⟩ : ∃ u, units l i = u := ⟨_, rfl⟩
   rw [hu] at hv ⊢
   have h60' : (l.length : Int) <= 60 := by omega
   repeat' first | refine St.go ?_ | ((with_reducible refine cn ?_ ?_) <;> intro h <;> (try simp [hlt, h60'] at h) <;> try omega) | (refine Ru.go ?_; intro K hK; simp [go_sem, hlt, h60']; (try simp (disch := omega) only [wx, z_i]); (first | apply hK | refine ⟨ob, ?_⟩ | refine ⟨hK _ ?_, fun h => ?_⟩ | refine ⟨?_, ?_⟩); all_goals ((try apply hK); clear hK K))
   simp [go_sem, hv, h60']
 ·have hv : fewD l = false := by
   unfold fewD
   simp [h60]
  have h60' : ¬ (l.length : Int) <= 60 := by omega
  repeat' first | refine St.go ?_ | ((with_reducible refine cn ?_ ?_) <;> intro h <;> (try simp at h) <;> try omega) | (refine Ru.go ?_; intro K hK; simp [go_sem]; (try simp (disch := omega) only [wx, z_i]); (first | apply hK | refine ⟨ob, ?_⟩ | refine ⟨hK _ ?_, fun h => ?_⟩ | refine ⟨?_, ?_⟩); all_goals ((try apply hK); clear hK K))
  refine z_k (fun n e => ∃ (i : Nat) (u : Int), i + n = l.length /\ e = [(4, .sv (.one (.int .i64 i))), (3, .sv (.one (.int .i64 u))), (0, .sv (.one (.sl (l.map encD))))]) l.length _ ⟨0, 0, by simp, rfl⟩ (by simp [go_sem]) ?_
  rintro n e ⟨i, u, hi, rfl⟩
  by_cases hlt : i < l.length
  ·obtain ⟨d, hd⟩ : ∃ d, l[i] = d := ⟨_, rfl⟩
   have hdp := hp l[i] (List.getElem_mem hlt)
   rw [hd] at hdp
   obtain ⟨h1, h2, h3⟩ := hdp
   repeat' first | refine St.go ?_ | ((with_reducible refine cn ?_ ?_) <;> intro h <;> (try simp [hlt, hd] at h) <;> try omega) | (refine Ru.go ?_; intro K hK; simp [go_sem, hlt, hd, encD]; (try simp (disch := omega) only [wx, z_i]); (first | apply hK | refine ⟨ob, ?_⟩ | refine ⟨hK _ ?_, fun h => ?_⟩ | refine ⟨?_, ?_⟩); all_goals ((try apply hK); clear hK K))
   refine z_j (n - 1) _ (by omega) ⟨i + 1, IntKind.i64.wrap (u + (d.fields.length + d.diffs.length + d.equals.length)), by omega, rfl⟩ ?_
   simp [go_sem]
  ·have hie : i = l.length := by omega
   repeat' first | refine St.go ?_ | ((with_reducible refine cn ?_ ?_) <;> intro h <;> (try simp [hlt, h60'] at h) <;> try omega) | (refine Ru.go ?_; intro K hK; simp [go_sem, hlt, h60']; (try simp (disch := omega) only [wx, z_i]); (first | apply hK | refine ⟨ob, ?_⟩ | refine ⟨hK _ ?_, fun h => ?_⟩ | refine ⟨?_, ?_⟩); all_goals ((try apply hK); clear hK K))
   simp [go_sem, hv]
def fewG (g : Glob) : Bool := decide (g.states <= 40) && decide (g.edges.length <= 80) && decide (g.timeouts.length <= 40) && decide (g.roles.length <= 10) && fewD g.decls
theorem f25 (g : Glob) (hl : g.decls.length <= 1000000000000000) (hp : ∀ d ∈ g.decls, d.fields.length <= 1000000000000000 /\ d.diffs.length <= 1000000000000000 /\ d.equals.length <= 1000000000000000) : Impl Tryz.prog 25 [.ag (encG g)] (.one (.one (.bool (fewG g)))) := by
 have c1 := f45 g.decls hl hp
 refine impl_w Tryz.func25 z25 Tryz.ntmps25 (by simp) ?_
 simp only [slotsOf]
 conv => arg 2; reduce
 have hv : fewG g = (decide (g.states <= 40) && decide ((g.edges.length : Int) <= 80) && decide ((g.timeouts.length : Int) <= 40) && decide ((g.roles.length : Int) <= 10) && fewD g.decls) := by
  unfold fewG
  rw [Bool.eq_iff_iff]
  simp
  omega
 obtain ⟨V, hV⟩ : ∃ V, fewG g = V := ⟨_, rfl⟩
 rw [hV] at hv ⊢
 by_cases h1 : g.states <= 40
 ·by_cases h2 : (g.edges.length : Int) <= 80
  ·by_cases h3 : (g.timeouts.length : Int) <= 40
   ·by_cases h4 : (g.roles.length : Int) <= 10
    ·skip
     have q_ := aN h1 <| aN h2 <| aN h3 <| h4
     repeat' first | refine St.go ?_ | (refine Ru.go ?_; intro K hK; simp [go_sem, encG, q_]; (first | apply hK | ((try refine .inl ?_); refine ⟨_, by (try intro hc); (repeat' first | exact c1 | exact hc | refine And.intro ?_ ?_ | simp [go_sem, encG, q_]); first | done | omega, ?_⟩; first | apply hK | (refine ⟨by simp [go_sem, encG, q_], ?_⟩; apply hK)) | refine ⟨.one (.one (.bool false)), by simp [go_sem, encG, q_], hK _ _ ?_⟩ | refine ⟨ob, ?_⟩ | refine ⟨hK _ ?_, fun h => ?_⟩ | refine ⟨?_, ?_⟩); all_goals ((try apply hK); clear hK K))
     all_goals try clear q_
     simp [go_sem, hv, h1, h2, h3, h4]
    ·skip
     repeat' first | refine St.go ?_ | (refine Ru.go ?_; intro K hK; simp [go_sem, encG, h1, h2, h3, h4]; (first | apply hK | refine ⟨ob, ?_⟩ | refine ⟨hK _ ?_, fun h => ?_⟩ | refine ⟨?_, ?_⟩); all_goals ((try apply hK); clear hK K))
     simp [go_sem, hv, h4]
   ·skip
    repeat' first | refine St.go ?_ | (refine Ru.go ?_; intro K hK; simp [go_sem, encG, h1, h2, h3]; (first | apply hK | refine ⟨ob, ?_⟩ | refine ⟨hK _ ?_, fun h => ?_⟩ | refine ⟨?_, ?_⟩); all_goals ((try apply hK); clear hK K))
    simp [go_sem, hv, h3]
  ·skip
   repeat' first | refine St.go ?_ | (refine Ru.go ?_; intro K hK; simp [go_sem, encG, h1, h2]; (first | apply hK | refine ⟨ob, ?_⟩ | refine ⟨hK _ ?_, fun h => ?_⟩ | refine ⟨?_, ?_⟩); all_goals ((try apply hK); clear hK K))
   simp [go_sem, hv, h2]
 ·skip
  repeat' first | refine St.go ?_ | (refine Ru.go ?_; intro K hK; simp [go_sem, encG, h1]; (first | apply hK | refine ⟨ob, ?_⟩ | refine ⟨hK _ ?_, fun h => ?_⟩ | refine ⟨?_, ?_⟩); all_goals ((try apply hK); clear hK K))
  simp [go_sem, hv, h1]
def rawA (l : List Inter) (c : Int) : DV := if c = 1 then .nil else .ow 3 (l.map encI)
theorem f12 (g : Glob) (H : List (List Ev)) (hs : Small g) (hl : H.length <= 1000000) (hh : ∀ l ∈ H, l.length <= 1000000) :
  Impl Tryz.prog 12 [.ag (encG g), .one (.sl (H.map encH))] (.tup [.one (rawA (actsF g (searchF g H).1) (searchF g H).2), .one (.int .i64 (searchF g H).2)]) := by
 have k27 := f27 g H hs hl hh
 have k28 := f28 g H hs hh
 have hso : ∀ l c, searchF g H = (some l, c) -> _ := fun l c => search_ok
 simp only [encG] at k27 k28
 refine impl_w Tryz.func12 z12 Tryz.ntmps12 (by simp) ?_
 simp only [slotsOf]
 conv => arg 2; reduce
 cases hg : goodF g H with
 | false =>
   rw [hg] at k27
   have hr : searchF g H = (none, 1) := by unfold searchF; rw [hg]; rfl
   rw [hr]
   repeat' first | refine St.go ?_ | ((with_reducible refine cn ?_ ?_) <;> intro h <;> (try simp at h) <;> try omega) | (refine Ru.go ?_; intro K hK; simp [go_sem, encG]; (try simp (disch := omega) only [wx, z_i]); (first | apply hK | ((try refine .inl ?_); refine ⟨_, by (repeat' first | exact k27 | refine And.intro ?_ ?_ | simp [go_sem, encG]); first | done | omega, ?_⟩; first | apply hK | (refine ⟨by simp [go_sem, encG], ?_⟩; first | apply hK | refine ⟨by simp [go_sem, encG], hK _ _ ?_⟩)) | refine ⟨by first | omega | (simp [z_f, z_g, encG]; first | done | omega), ?_⟩ | refine ⟨hK _ ?_, fun h => ?_⟩ | refine ⟨?_, ?_⟩); all_goals ((try apply hK); clear hK K))
   simp [go_sem, rawA]
 | true =>
   rw [hg] at k27
   have k28 := k28 hg
   have hr : searchF g H = findL g H 20001 0 [firstN g H] := by unfold searchF; rw [hg]; rfl
   have hc1 := findL_ne1 g H 20001 0 [firstN g H]
   rw [<- hr] at k28 hc1
   generalize searchF g H = r at *
   obtain ⟨o, c⟩ := r
   have hraw : ∀ l, rawA l c = .ow 3 (l.map encI) := fun l => by
    unfold rawA
    rw [if_neg hc1]
   cases o with
   | none =>
     simp only [resS] at k28
     repeat' first | refine St.go ?_ | ((with_reducible refine cn ?_ ?_) <;> intro h <;> (try simp at h) <;> try omega) | (refine Ru.go ?_; intro K hK; simp [go_sem, encG]; (try simp (disch := omega) only [wx, z_i]); (first | apply hK | ((try refine .inl ?_); refine ⟨_, by (repeat' first | exact k27 | exact k28 | refine And.intro ?_ ?_ | simp [go_sem, encG]); first | done | omega, ?_⟩; first | apply hK | (refine ⟨by simp [go_sem, encG], ?_⟩; first | apply hK | refine ⟨by simp [go_sem, encG], hK _ _ ?_⟩)) | refine ⟨by first | omega | (simp [z_f, z_g, encG]; first | done | omega), ?_⟩ | refine ⟨hK _ ?_, fun h => ?_⟩ | refine ⟨?_, ?_⟩); all_goals ((try apply hK); clear hK K))
     refine z_k (fun n e => n = 0 /\ e = [(9, .sv (.one (.int .i64 0))), (8, .sv (.one (.ow 3 []))), (7, .sv (.one (.int .i64 c))), (6, .sv (.one .nil))]) 0 _ ⟨rfl, rfl⟩ (by simp [go_sem]) ?_
     rintro n e ⟨_, rfl⟩
     repeat' first | refine St.go ?_ | ((with_reducible refine cn ?_ ?_) <;> intro h <;> (try simp at h) <;> try omega) | (refine Ru.go ?_; intro K hK; simp [go_sem]; (try simp (disch := omega) only [wx, z_i]); (first | apply hK | refine ⟨by first | omega | (simp [z_f, z_g]; first | done | omega), ?_⟩ | refine ⟨hK _ ?_, fun h => ?_⟩ | refine ⟨?_, ?_⟩); all_goals ((try apply hK); clear hK K))
     simp [go_sem, actsF, hraw]
   | some l =>
     obtain ⟨hok, hll, rfl⟩ := hso l c rfl
     simp only [resS] at k28
     repeat' first | refine St.go ?_ | ((with_reducible refine cn ?_ ?_) <;> intro h <;> (try simp at h) <;> try omega) | (refine Ru.go ?_; intro K hK; simp [go_sem, encG]; (try simp (disch := omega) only [wx, z_i]); (first | apply hK | ((try refine .inl ?_); refine ⟨_, by (repeat' first | exact k27 | exact k28 | refine And.intro ?_ ?_ | simp [go_sem, encG]); first | done | omega, ?_⟩; first | apply hK | (refine ⟨by simp [go_sem, encG], ?_⟩; first | apply hK | refine ⟨by simp [go_sem, encG], hK _ _ ?_⟩)) | refine ⟨by first | omega | (simp [z_f, z_g, encG]; first | done | omega), ?_⟩ | refine ⟨hK _ ?_, fun h => ?_⟩ | refine ⟨?_, ?_⟩); all_goals ((try apply hK); clear hK K))
     refine z_k (fun n e => ∃ (j : Nat) (A : List Inter), j + n = l.length /\ A = (l.take j).map (actAt g) /\ e = [(9, .sv (.one (.int .i64 j))), (8, .sv (.one (.ow 3 (A.map encI)))), (7, .sv (.one (.int .i64 0))), (6, .sv (.one (.ow 1 (l.map encN)))), (2, .sv (.one (.bx (encG g))))]) l.length _ ⟨0, [], by simp, by simp, rfl⟩ (by simp [go_sem, encG]) ?_
     rintro n e ⟨j, A, hj, hA, rfl⟩
     by_cases hlt : j < l.length
     ·obtain ⟨k, hk⟩ : ∃ k, l[j] = k := ⟨_, rfl⟩
      obtain ⟨hk0, hk1⟩ := hok k (hk ▸ List.getElem_mem hlt)
      obtain ⟨x, hx⟩ : ∃ x, g.edges[k.toNat] = x := ⟨_, rfl⟩
      have hAl : A.length <= 20000 := by rw [hA]; simp; omega
      have hap := okI_of (els := A.map encI) (news := [encI x.act]) (fun e he => ⟨x.act, List.mem_singleton.1 he⟩) (by simp; omega)
      simp only [encI] at hap
      have q_ := aN hlt <| aN hk <| aN hk0 <| aN hk1 <| aN hx <| hap
      repeat' first | refine St.go ?_ | ((with_reducible refine cn ?_ ?_) <;> intro h <;> (try simp [q_] at h) <;> try omega) | (refine Ru.go ?_; intro K hK; simp [go_sem, encN, encEd, encG, q_]; (try simp (disch := omega) only [wx, z_i]); (first | apply hK | refine ⟨by first | omega | (simp [z_f, z_g, encN, encEd, encG, q_]; first | done | omega), ?_⟩ | refine ⟨hK _ ?_, fun h => ?_⟩ | refine ⟨?_, ?_⟩); all_goals ((try apply hK); clear hK K))
      all_goals try clear q_
      refine z_j (n - 1) _ (by omega) ⟨j + 1, A ++ [x.act], by omega, by rw [List.take_succ_eq_append_getElem hlt, hk, List.map_append, hA, <- actAt_eq hk1 hx]; rfl, rfl⟩ ?_
      simp [go_sem, encG, encI]
     ·have hkj : l.take j = l := List.take_of_length_le (by omega)
      rw [hkj] at hA
      subst hA
      repeat' first | refine St.go ?_ | ((with_reducible refine cn ?_ ?_) <;> intro h <;> (try simp [hlt] at h) <;> try omega) | (refine Ru.go ?_; intro K hK; simp [go_sem, hlt]; (try simp (disch := omega) only [wx, z_i]); (first | apply hK | refine ⟨by first | omega | (simp [z_f, z_g, hlt]; first | done | omega), ?_⟩ | refine ⟨hK _ ?_, fun h => ?_⟩ | refine ⟨?_, ?_⟩); all_goals ((try apply hK); clear hK K))
      simp [go_sem, actsF, hraw]
theorem f13 (a b : List Inter) (ha : a.length <= 1000000) (hb : b.length <= 1000000) : Impl Tryz.prog 13 [.one (.sl (a.map encI)), .one (.sl (b.map encI))] (.one (.one (.bool (decide (a = b))))) := by
 refine impl_w Tryz.func13 z13 Tryz.ntmps13 (by simp) ?_
 simp only [slotsOf]
 conv => arg 2; reduce
 by_cases hlen : a.length = b.length
 rotate_left
 ·have hne : a ≠ b := fun e => hlen (by rw [e])
  have hlen2 : ¬ (a.length : Int) = b.length := by omega
  repeat' first | refine St.go ?_ | ((with_reducible refine cn ?_ ?_) <;> intro h <;> (try simp [hlen, hlen2] at h) <;> try omega) | (refine Ru.go ?_; intro K hK; simp [go_sem, hlen, hlen2]; (try simp (disch := omega) only [wx, z_i]); (first | apply hK | refine ⟨ob, ?_⟩ | refine ⟨hK _ ?_, fun h => ?_⟩ | refine ⟨?_, ?_⟩); all_goals ((try apply hK); clear hK K))
  simp [go_sem, hne]
 have hlen2 : (a.length : Int) = b.length := by omega
 repeat' first | refine St.go ?_ | ((with_reducible refine cn ?_ ?_) <;> intro h <;> (try simp [hlen2] at h) <;> try omega) | (refine Ru.go ?_; intro K hK; simp [go_sem, hlen2]; (try simp (disch := omega) only [wx, z_i]); (first | apply hK | refine ⟨ob, ?_⟩ | refine ⟨hK _ ?_, fun h => ?_⟩ | refine ⟨?_, ?_⟩); all_goals ((try apply hK); clear hK K))
 refine z_k (fun n e => ∃ k, k + n = a.length /\ a.take k = b.take k /\ e = [(5, .sv (.one (.int .i64 (k : Nat)))), (0, .sv (.one (.sl (a.map encI)))), (1, .sv (.one (.sl (b.map encI))))]) a.length _ ⟨0, by simp, by simp, rfl⟩ (by simp [go_sem]) ?_
 rintro n e ⟨k, hk, htk, rfl⟩
 by_cases hlt : k < a.length
 ·have hlt' : k < b.length := by omega
  obtain ⟨x, hx⟩ : ∃ x, a[k] = x := ⟨_, rfl⟩
  obtain ⟨y, hy⟩ : ∃ y, b[k] = y := ⟨_, rfl⟩
  by_cases hxy : x = y
  ·subst hxy
   repeat' first | refine St.go ?_ | ((with_reducible refine cn ?_ ?_) <;> intro h <;> (try simp [hlt, hlt', hx, hy] at h) <;> try omega) | (refine Ru.go ?_; intro K hK; simp [go_sem, hlt, hlt', hx, hy, encI]; (try simp (disch := omega) only [wx, z_i]); (first | apply hK | refine ⟨ob, ?_⟩ | refine ⟨hK _ ?_, fun h => ?_⟩ | refine ⟨?_, ?_⟩); all_goals ((try apply hK); clear hK K))
   refine z_j (n - 1) _ (by omega) ⟨k + 1, by omega, ?_, rfl⟩ ?_
   ·rw [List.take_succ_eq_append_getElem hlt, List.take_succ_eq_append_getElem hlt', htk, hx, hy]
   ·simp [go_sem]
  ·have hne : a ≠ b := fun e => hxy (by rw [<- hx, <- hy]; simp only [e])
   have hab : (x.from_ == y.from_ && (x.to == y.to && x.label == y.label)) = false := by
    rw [Bool.eq_false_iff]
    intro h
    simp only [Bool.and_eq_true, beq_iff_eq] at h
    apply hxy
    cases x; cases y; simp_all
   have q_ := aN hlt <| aN hlt' <| aN hx <| aN hy <| hab
   repeat' first | refine St.go ?_ | ((with_reducible refine cn ?_ ?_) <;> intro h <;> (try simp [q_] at h) <;> try omega) | (refine Ru.go ?_; intro K hK; simp [go_sem, encI, q_]; (try simp (disch := omega) only [wx, z_i]); (first | apply hK | refine ⟨ob, ?_⟩ | refine ⟨hK _ ?_, fun h => ?_⟩ | refine ⟨?_, ?_⟩); all_goals ((try apply hK); clear hK K))
   all_goals try clear q_
   simp [go_sem, hne]
 ·have hab : a = b := by
   rw [List.take_of_length_le (by omega), List.take_of_length_le (by omega)] at htk
   exact htk
  repeat' first | refine St.go ?_ | ((with_reducible refine cn ?_ ?_) <;> intro h <;> (try simp [hlt] at h) <;> try omega) | (refine Ru.go ?_; intro K hK; simp [go_sem, hlt]; (try simp (disch := omega) only [wx, z_i]); (first | apply hK | refine ⟨ob, ?_⟩ | refine ⟨hK _ ?_, fun h => ?_⟩ | refine ⟨?_, ?_⟩); all_goals ((try apply hK); clear hK K))
  simp [go_sem, hab]
def sumH (H : List (List Ev)) : Nat := (H.map List.length).sum
def fewF (g : Glob) (H : List (List Ev)) (n : Int) : Bool := fewG g && (decide (g.states <= 20) && (decide (g.decls.length <= 8) && (decide (H.length <= 8) && decide ((sumH H : Int) <= n))))
theorem sumH_succ {H : List (List Ev)} {k : Nat} (h : k < H.length) : sumH (H.take (k + 1)) = sumH (H.take k) + H[k].length := by
 unfold sumH
 rw [List.take_succ_eq_append_getElem h, List.map_append, List.sum_append]
 simp
theorem sumH_le (b : Nat) : ∀ (H : List (List Ev)), (∀ l ∈ H, l.length <= b) -> sumH H <= H.length * b
 | [], _ => by simp [sumH]
 | h :: H, hb => by
   have h1 := sumH_le b H fun l hl => hb l (List.mem_cons_of_mem _ hl)
   have h2 := hb h (by simp)
   unfold sumH at *
   simp only [List.map_cons, List.sum_cons, List.length_cons]
   rw [Nat.add_mul]
   omega
theorem f10 (g : Glob) (H : List (List Ev)) (n : Int) (hgl : g.decls.length <= 1000000000000000) (hp : ∀ d ∈ g.decls, d.fields.length <= 1000000000000000 /\ d.diffs.length <= 1000000000000000 /\ d.equals.length <= 1000000000000000) (hl : H.length <= 1000000000000000) (hh : ∀ l ∈ H, l.length <= 1000000000000000) :
  Impl Tryz.prog 10 [.ag (encG g), .one (.sl (H.map encH)), .one (.int .i64 n)] (.one (.one (.bool (fewF g H n)))) := by
 have k25 := f25 g hgl hp
 simp only [encG] at k25
 refine impl_w Tryz.func10 z10 Tryz.ntmps10 (by simp) ?_
 simp only [slotsOf]
 conv => arg 2; reduce
 by_cases h8 : H.length <= 8
 rotate_left
 ·have hf : fewF g H n = false := by
   unfold fewF
   rw [decide_eq_false h8]
   simp
  rw [hf]
  repeat' first | refine St.go ?_ | ((with_reducible refine cn ?_ ?_) <;> intro h <;> (try simp at h) <;> try omega) | (refine Ru.go ?_; intro K hK; simp [go_sem, encG]; (try simp (disch := omega) only [wx, z_i]); (first | apply hK | refine ⟨ob, ?_⟩ | refine ⟨hK _ ?_, fun h => ?_⟩ | refine ⟨?_, ?_⟩); all_goals ((try apply hK); clear hK K))
  refine z_k (fun q e => ∃ (k : Nat) (m : Int), k + q = H.length /\ e = [(12, .sv (.one (.int .i64 k))), (11, .sv (.one (.int .i64 H.length))), (10, .sv (.one (.sl (H.map encH)))), (7, .sv (.one (.int .i64 m))), (6, .sv (.one (.bool false))), (3, .sv (.one (.bx (encG g)))), (2, .sv (.one (.int .i64 n))), (1, .sv (.one (.sl (H.map encH))))]) H.length _ ⟨0, 0, by simp, rfl⟩ (by simp [go_sem, encG]) ?_
  rintro q e ⟨k, m, hk, rfl⟩
  by_cases hlt : k < H.length
  ·obtain ⟨h1, hh1⟩ : ∃ h, H[k] = h := ⟨_, rfl⟩
   repeat' first | refine St.go ?_ | ((with_reducible refine cn ?_ ?_) <;> intro h <;> (try simp [hlt, hh1] at h) <;> try omega) | (refine Ru.go ?_; intro K hK; simp [go_sem, hlt, hh1, encH]; (try simp (disch := omega) only [wx, z_i]); (first | apply hK | refine ⟨ob, ?_⟩ | refine ⟨hK _ ?_, fun h => ?_⟩ | refine ⟨?_, ?_⟩); all_goals ((try apply hK); clear hK K))
   refine z_j (q - 1) _ (by omega) ⟨k + 1, IntKind.i64.wrap (m + (h1.length : Int)), by omega, rfl⟩ ?_
   simp [go_sem, encG]
  ·have h8' : ¬ (H.length : Int) <= 8 := by omega
   cases hfw : fewG g with
   | false =>
     rw [hfw] at k25
     have q_ := aN hlt <| aN h8 <| h8'
     repeat' first | refine St.go ?_ | ((with_reducible refine cn ?_ ?_) <;> intro h <;> (try simp [q_] at h) <;> try omega) | (refine Ru.go ?_; intro K hK; simp [go_sem, encG, q_]; (try simp (disch := omega) only [wx, z_i]); (first | apply hK | ((try refine .inl ?_); refine ⟨_, by (repeat' first | exact k25 | refine And.intro ?_ ?_ | simp [go_sem, encG, q_]); first | done | omega, ?_⟩; first | apply hK | (refine ⟨by simp [go_sem, encG, q_], ?_⟩; apply hK)) | refine ⟨ob, ?_⟩ | refine ⟨hK _ ?_, fun h => ?_⟩ | refine ⟨?_, ?_⟩); all_goals ((try apply hK); clear hK K))
     all_goals try clear q_
     simp [go_sem]
   | true =>
     rw [hfw] at k25
     by_cases hst : g.states <= 20
     ·by_cases hd : g.decls.length <= 8
      ·have hd' : (g.decls.length : Int) <= 8 := by omega
       have q_ := aN hlt <| aN h8 <| aN h8' <| aN hst <| aN hd <| hd'
       repeat' first | refine St.go ?_ | ((with_reducible refine cn ?_ ?_) <;> intro h <;> (try simp [q_] at h) <;> try omega) | (refine Ru.go ?_; intro K hK; simp [go_sem, encG, q_]; (try simp (disch := omega) only [wx, z_i]); (first | apply hK | ((try refine .inl ?_); refine ⟨_, by (repeat' first | exact k25 | refine And.intro ?_ ?_ | simp [go_sem, encG, q_]); first | done | omega, ?_⟩; first | apply hK | (refine ⟨by simp [go_sem, encG, q_], ?_⟩; apply hK)) | refine ⟨ob, ?_⟩ | refine ⟨hK _ ?_, fun h => ?_⟩ | refine ⟨?_, ?_⟩); all_goals ((try apply hK); clear hK K))
       all_goals try clear q_
       simp [go_sem]
      ·have hd' : ¬ (g.decls.length : Int) <= 8 := by omega
       have q_ := aN hlt <| aN h8 <| aN h8' <| aN hst <| aN hd <| hd'
       repeat' first | refine St.go ?_ | ((with_reducible refine cn ?_ ?_) <;> intro h <;> (try simp [q_] at h) <;> try omega) | (refine Ru.go ?_; intro K hK; simp [go_sem, encG, q_]; (try simp (disch := omega) only [wx, z_i]); (first | apply hK | ((try refine .inl ?_); refine ⟨_, by (repeat' first | exact k25 | refine And.intro ?_ ?_ | simp [go_sem, encG, q_]); first | done | omega, ?_⟩; first | apply hK | (refine ⟨by simp [go_sem, encG, q_], ?_⟩; apply hK)) | refine ⟨ob, ?_⟩ | refine ⟨hK _ ?_, fun h => ?_⟩ | refine ⟨?_, ?_⟩); all_goals ((try apply hK); clear hK K))
       all_goals try clear q_
       simp [go_sem]
     ·skip
      have q_ := aN hlt <| aN h8 <| aN h8' <| hst
      repeat' first | refine St.go ?_ | ((with_reducible refine cn ?_ ?_) <;> intro h <;> (try simp [q_] at h) <;> try omega) | (refine Ru.go ?_; intro K hK; simp [go_sem, encG, q_]; (try simp (disch := omega) only [wx, z_i]); (first | apply hK | ((try refine .inl ?_); refine ⟨_, by (repeat' first | exact k25 | refine And.intro ?_ ?_ | simp [go_sem, encG, q_]); first | done | omega, ?_⟩; first | apply hK | (refine ⟨by simp [go_sem, encG, q_], ?_⟩; apply hK)) | refine ⟨ob, ?_⟩ | refine ⟨hK _ ?_, fun h => ?_⟩ | refine ⟨?_, ?_⟩); all_goals ((try apply hK); clear hK K))
      all_goals try clear q_
      simp [go_sem]
 have hsl := sumH_le 1000000000000000 H hh
 have htk : ∀ k, sumH (H.take k) <= 8000000000000000 := fun k => by
  have := sumH_le 1000000000000000 (H.take k) fun l hl' => hh l (List.mem_of_mem_take hl')
  have h2 : (H.take k).length <= 8 := by rw [List.length_take]; omega
  omega
 repeat' first | refine St.go ?_ | ((with_reducible refine cn ?_ ?_) <;> intro h <;> (try simp at h) <;> try omega) | (refine Ru.go ?_; intro K hK; simp [go_sem, encG]; (try simp (disch := omega) only [wx, z_i]); (first | apply hK | refine ⟨ob, ?_⟩ | refine ⟨hK _ ?_, fun h => ?_⟩ | refine ⟨?_, ?_⟩); all_goals ((try apply hK); clear hK K))
 refine z_k (fun q e => ∃ k : Nat, k + q = H.length /\ e = [(12, .sv (.one (.int .i64 k))), (11, .sv (.one (.int .i64 H.length))), (10, .sv (.one (.sl (H.map encH)))), (7, .sv (.one (.int .i64 (sumH (H.take k))))), (6, .sv (.one (.bool false))), (3, .sv (.one (.bx (encG g)))), (2, .sv (.one (.int .i64 n))), (1, .sv (.one (.sl (H.map encH))))]) H.length _ ⟨0, by simp, rfl⟩ (by simp [go_sem, encG, sumH]) ?_
 rintro q e ⟨k, hk, rfl⟩
 have hk8 := htk k
 by_cases hlt : k < H.length
 ·obtain ⟨h1, hh1⟩ : ∃ h, H[k] = h := ⟨_, rfl⟩
  have hl1 : h1.length <= 1000000000000000 := hh _ (hh1 ▸ List.getElem_mem hlt)
  have hsu := sumH_succ hlt
  rw [hh1] at hsu
  obtain ⟨s, hse⟩ : ∃ s, sumH (H.take k) = s := ⟨_, rfl⟩
  rw [hse] at hk8 hsu ⊢
  repeat' first | refine St.go ?_ | ((with_reducible refine cn ?_ ?_) <;> intro h <;> (try simp [hlt, hh1] at h) <;> try omega) | (refine Ru.go ?_; intro K hK; simp [go_sem, hlt, hh1, encH]; (try simp (disch := omega) only [wx, z_i]); (first | apply hK | refine ⟨ob, ?_⟩ | refine ⟨hK _ ?_, fun h => ?_⟩ | refine ⟨?_, ?_⟩); all_goals ((try apply hK); clear hK K))
  refine z_j (q - 1) _ (by omega) ⟨k + 1, by omega, rfl⟩ ?_
  simp [go_sem, encG, hsu]
 ·have hkl : H.take k = H := List.take_of_length_le (by omega)
  rw [hkl]
  obtain ⟨s, hse⟩ : ∃ s, sumH H = s := ⟨_, rfl⟩
  have h8' : (H.length : Int) <= 8 := by omega
  unfold fewF
  rw [hse, decide_eq_true h8]
  cases hfw : fewG g with
  | false =>
    rw [hfw] at k25
    have q_ := aN hlt <| aN h8 <| h8'
    repeat' first | refine St.go ?_ | ((with_reducible refine cn ?_ ?_) <;> intro h <;> (try simp [q_] at h) <;> try omega) | (refine Ru.go ?_; intro K hK; simp [go_sem, encG, q_]; (try simp (disch := omega) only [wx, z_i]); (first | apply hK | ((try refine .inl ?_); refine ⟨_, by (repeat' first | exact k25 | refine And.intro ?_ ?_ | simp [go_sem, encG, q_]); first | done | omega, ?_⟩; first | apply hK | (refine ⟨by simp [go_sem, encG, q_], ?_⟩; apply hK)) | refine ⟨ob, ?_⟩ | refine ⟨hK _ ?_, fun h => ?_⟩ | refine ⟨?_, ?_⟩); all_goals ((try apply hK); clear hK K))
    all_goals try clear q_
    simp [go_sem]
  | true =>
    rw [hfw] at k25
    by_cases hst : g.states <= 20
    ·by_cases hd : g.decls.length <= 8
     ·have hd' : (g.decls.length : Int) <= 8 := by omega
      have q_ := aN hlt <| aN h8 <| aN h8' <| aN hst <| aN hd <| hd'
      repeat' first | refine St.go ?_ | ((with_reducible refine cn ?_ ?_) <;> intro h <;> (try simp [q_] at h) <;> try omega) | (refine Ru.go ?_; intro K hK; simp [go_sem, encG, q_]; (try simp (disch := omega) only [wx, z_i]); (first | apply hK | ((try refine .inl ?_); refine ⟨_, by (repeat' first | exact k25 | refine And.intro ?_ ?_ | simp [go_sem, encG, q_]); first | done | omega, ?_⟩; first | apply hK | (refine ⟨by simp [go_sem, encG, q_], ?_⟩; apply hK)) | refine ⟨ob, ?_⟩ | refine ⟨hK _ ?_, fun h => ?_⟩ | refine ⟨?_, ?_⟩); all_goals ((try apply hK); clear hK K))
      all_goals try clear q_
      simp [go_sem, hst, hd]
     ·have hd' : ¬ (g.decls.length : Int) <= 8 := by omega
      have q_ := aN hlt <| aN h8 <| aN h8' <| aN hst <| aN hd <| hd'
      repeat' first | refine St.go ?_ | ((with_reducible refine cn ?_ ?_) <;> intro h <;> (try simp [q_] at h) <;> try omega) | (refine Ru.go ?_; intro K hK; simp [go_sem, encG, q_]; (try simp (disch := omega) only [wx, z_i]); (first | apply hK | ((try refine .inl ?_); refine ⟨_, by (repeat' first | exact k25 | refine And.intro ?_ ?_ | simp [go_sem, encG, q_]); first | done | omega, ?_⟩; first | apply hK | (refine ⟨by simp [go_sem, encG, q_], ?_⟩; apply hK)) | refine ⟨ob, ?_⟩ | refine ⟨hK _ ?_, fun h => ?_⟩ | refine ⟨?_, ?_⟩); all_goals ((try apply hK); clear hK K))
      all_goals try clear q_
      simp [go_sem, hst, hd]
    ·skip
     have q_ := aN hlt <| aN h8 <| aN h8' <| hst
     repeat' first | refine St.go ?_ | ((with_reducible refine cn ?_ ?_) <;> intro h <;> (try simp [q_] at h) <;> try omega) | (refine Ru.go ?_; intro K hK; simp [go_sem, encG, q_]; (try simp (disch := omega) only [wx, z_i]); (first | apply hK | ((try refine .inl ?_); refine ⟨_, by (repeat' first | exact k25 | refine And.intro ?_ ?_ | simp [go_sem, encG, q_]); first | done | omega, ?_⟩; first | apply hK | (refine ⟨by simp [go_sem, encG, q_], ?_⟩; apply hK)) | refine ⟨ob, ?_⟩ | refine ⟨hK _ ?_, fun h => ?_⟩ | refine ⟨?_, ?_⟩); all_goals ((try apply hK); clear hK K))
     all_goals try clear q_
     simp [go_sem, hst]
theorem f56 (l : List Edg) (g : FuncId) (caps : List DV) (p : Edg -> Bool) (hl : l.length <= 1000000) (hg : ∀ x ∈ l, Impl Tryz.prog g (.ag (encEd x) :: caps.map .one) (.one (.one (.bool (p x))))) :
  Impl Tryz.prog 56 [.one (.sl (l.map encEd)), .one (.fn g caps)] (.one (.one (.int .i64 (firstB p l)))) := by
 refine impl_w Tryz.func56 z56 Tryz.ntmps56 (by simp) ?_
 simp only [slotsOf]
 conv => arg 2; reduce
 repeat' first | refine St.go ?_ | ((with_reducible refine cn ?_ ?_) <;> intro h <;> (try simp at h) <;> try omega) | (refine Ru.go ?_; intro K hK; simp [go_sem]; (try simp (disch := omega) only [wx, z_i]); (first | apply hK | refine ⟨ob, ?_⟩ | refine ⟨hK _ ?_, fun h => ?_⟩ | refine ⟨?_, ?_⟩); all_goals ((try apply hK); clear hK K))
 refine z_k (fun n e => ∃ k : Nat, k + n = l.length /\ (l.take k).any p = false /\ e = [(8, .sv (.one (.int .i64 k))), (7, .sv (.one (.int .i64 l.length))), (1, .sv (.one (.fn g caps))), (0, .sv (.one (.sl (l.map encEd))))]) l.length _ ⟨0, by simp, by simp, rfl⟩ (by simp [go_sem]) ?_
 rintro n e ⟨k, hk, h0, rfl⟩
 by_cases hlt : k < l.length
 ·have hgs := hg l[k] (List.getElem_mem hlt)
  simp only [encEd] at hgs
  cases hx : p l[k] with
  | true =>
    have hf := firstB_at hlt h0 hx
    rw [hx] at hgs
    repeat' first | refine St.go ?_ | ((with_reducible refine cn ?_ ?_) <;> intro h <;> (try simp [hlt] at h) <;> try omega) | (refine Ru.go ?_; intro K hK; simp [go_sem, hlt, encEd]; (try simp (disch := omega) only [wx, z_i]); (first | apply hK | ((try refine .inl ?_); refine ⟨_, by (repeat' first | exact hgs | refine And.intro ?_ ?_ | simp [go_sem, hlt, encEd]); first | done | omega, ?_⟩; first | apply hK | (refine ⟨by simp [go_sem, hlt, encEd], ?_⟩; apply hK)) | refine ⟨ob, ?_⟩ | refine ⟨hK _ ?_, fun h => ?_⟩ | refine ⟨?_, ?_⟩); all_goals ((try apply hK); clear hK K))
    simp [go_sem, hf]
  | false =>
    rw [hx] at hgs
    repeat' first | refine St.go ?_ | ((with_reducible refine cn ?_ ?_) <;> intro h <;> (try simp [hlt] at h) <;> try omega) | (refine Ru.go ?_; intro K hK; simp [go_sem, hlt, encEd]; (try simp (disch := omega) only [wx, z_i]); (first | apply hK | ((try refine .inl ?_); refine ⟨_, by (repeat' first | exact hgs | refine And.intro ?_ ?_ | simp [go_sem, hlt, encEd]); first | done | omega, ?_⟩; first | apply hK | (refine ⟨by simp [go_sem, hlt, encEd], ?_⟩; apply hK)) | refine ⟨ob, ?_⟩ | refine ⟨hK _ ?_, fun h => ?_⟩ | refine ⟨?_, ?_⟩); all_goals ((try apply hK); clear hK K))
    refine z_j (n - 1) _ (by omega) ⟨k + 1, by omega, ?_, rfl⟩ ?_
    ·rw [any_succ hlt, h0, hx]; rfl
    ·simp [go_sem]
 ·have hkl : l.take k = l := List.take_of_length_le (by omega)
  rw [hkl] at h0
  have hf := firstB_none h0
  repeat' first | refine St.go ?_ | ((with_reducible refine cn ?_ ?_) <;> intro h <;> (try simp [hlt] at h) <;> try omega) | (refine Ru.go ?_; intro K hK; simp [go_sem, hlt]; (try simp (disch := omega) only [wx, z_i]); (first | apply hK | refine ⟨ob, ?_⟩ | refine ⟨hK _ ?_, fun h => ?_⟩ | refine ⟨?_, ?_⟩); all_goals ((try apply hK); clear hK K))
  simp [go_sem, hf]
theorem f29 (l : List Edg) (g : FuncId) (caps : List DV) (p : Edg -> Bool) (hl : l.length <= 1000000) (hg : ∀ x ∈ l, Impl Tryz.prog g (.ag (encEd x) :: caps.map .one) (.one (.one (.bool (p x))))) :
  Impl Tryz.prog 29 [.one (.sl (l.map encEd)), .one (.fn g caps)] (.one (.one (.bool (l.any p)))) := by
 refine impl_w Tryz.func29 z29 Tryz.ntmps29 (by simp) ?_
 simp only [slotsOf]
 conv => arg 2; reduce
 have hf := firstB_any p l
 repeat' first | refine St.go ?_ | (refine Ru.go ?_; intro K hK; simp [go_sem]; (first | apply hK | ((try refine .inl ?_); refine ⟨_, by (repeat' first | exact f56 l g caps p hl hg | refine And.intro ?_ ?_ | simp [go_sem]); first | done | omega, ?_⟩; first | apply hK | (refine ⟨by simp [go_sem], ?_⟩; apply hK)) | refine ⟨ob, ?_⟩ | refine ⟨hK _ ?_, fun h => ?_⟩ | refine ⟨?_, ?_⟩); all_goals ((try apply hK); clear hK K))
 simp [go_sem, hf]
def hasA (a : Inter) (x : Edg) : Bool := x.act.from_ == a.from_ && (x.act.to == a.to && x.act.label == a.label)
theorem f30 (x : Edg) (a : Inter) : Impl Tryz.prog 30 [.ag (encEd x), .one (.rf (encI a))] (.one (.one (.bool (hasA a x)))) := by
 refine impl_w Tryz.func30 z30 Tryz.ntmps30 (by simp) ?_
 simp only [slotsOf]
 conv => arg 2; reduce
 repeat' first | refine St.go ?_ | (refine Ru.go ?_; intro K hK; simp [go_sem, encEd, encI]; (first | apply hK | refine ⟨ob, ?_⟩ | refine ⟨hK _ ?_, fun h => ?_⟩ | refine ⟨?_, ?_⟩); all_goals ((try apply hK); clear hK K))
 simp [go_sem, hasA, Bool.and_assoc]
theorem flat_encE (x : Ev) : (encE x).all DV.flat = true := by
 simp only [encE, List.all_cons, List.all_nil, flat_vals]
 rfl
theorem appendOk_e {l m : List Ev} (h : l.length + m.length <= 100000000) : z_f 5 56 (l.map encE) (m.map encE) := by
 refine ⟨?_, ?_, by omega, ?_, ?_⟩
 ·intro e he
  obtain ⟨z, _, rfl⟩ := List.mem_map.1 he
  exact flat_encE z
 ·intro e he
  obtain ⟨z, _, rfl⟩ := List.mem_map.1 he
  rfl
 ·simp only [List.length_map, maxLen]; omega
 ·simp only [List.length_map]; omega
theorem f32 (l : List Ev) (hl : l.length <= 1000000) : Impl Tryz.prog 32 [.one (.sl (l.map encE))] (.one (.one (.ow 5 (l.map encE)))) := by
 refine impl_w Tryz.func32 z32 Tryz.ntmps32 (by simp) ?_
 simp only [slotsOf]
 conv => arg 2; reduce
 have hap := appendOk_e (l := []) (m := l) (by simp; omega)
 simp only [List.map_nil] at hap
 repeat' first | refine St.go ?_ | ((with_reducible refine cn ?_ ?_) <;> intro h <;> (try simp [hap] at h) <;> try omega) | (refine Ru.go ?_; intro K hK; simp [go_sem, hap]; (first | apply hK | refine ⟨by first | omega | (simp [z_f, z_g, hap]; first | done | omega), ?_⟩ | refine ⟨hK _ ?_, fun h => ?_⟩ | refine ⟨?_, ?_⟩); all_goals ((try apply hK); clear hK K))
 all_goals simp_all [go_sem]
end Go.Av
