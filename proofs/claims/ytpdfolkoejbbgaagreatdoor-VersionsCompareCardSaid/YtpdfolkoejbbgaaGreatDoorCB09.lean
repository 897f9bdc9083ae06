/- Part of a proof. -/
import Derived.Test.YtpdfolkoejbbgaaGreatDoorCB08
set_option linter.unusedVariables false
set_option linter.unusedSimpArgs false
set_option maxHeartbeats 64000000
set_option maxRecDepth 8000
namespace Go.Av
open Go Go.RowKit Go.Proofs
def eqF {α : Type} (p : α -> α -> Bool) (a b : List α) : Bool := decide (a.length = b.length) && (a.zip b).all fun x => p x.1 x.2
theorem eqF_take {α : Type} {p : α -> α -> Bool} {a b : List α} (hab : a.length = b.length) : eqF p a b = (a.zip b).all fun x => p x.1 x.2 := by simp [eqF, hab]
theorem zip_len {α : Type} {a b : List α} (hab : a.length = b.length) : (a.zip b).length = a.length := by rw [List.length_zip]; omega
theorem zip_at {α : Type} {a b : List α} {k : Nat} (h1 : k < a.length) (h2 : k < b.length) : (a.zip b)[k]'(by rw [List.length_zip]; omega) = (a[k], b[k]) := by simp
theorem f89 (a b : List Dff) (g : FuncId) (caps : List DV) (p : Dff -> Dff -> Bool) (ha : a.length <= 1000000) (hb : b.length <= 1000000) (hg : ∀ x ∈ a, ∀ y ∈ b, Impl Tryz.prog g ([.ag (encDf x), .ag (encDf y)] ++ caps.map .one) (.one (.one (.bool (p x y))))) :
  Impl Tryz.prog 89 [.one (.sl (a.map encDf)), .one (.sl (b.map encDf)), .one (.fn g caps)] (.one (.one (.bool (eqF p a b)))) := by
 refine impl_w Tryz.func89 z89 Tryz.ntmps89 (by simp) ?_
 simp only [slotsOf]
 conv => arg 2; reduce
 by_cases hab : a.length = b.length
 ·have hz := zip_len hab
  rw [eqF_take hab]
  obtain ⟨V, hV⟩ : ∃ V, V = (a.zip b).all fun x => p x.1 x.2 := ⟨_, rfl⟩
  rw [<- hV]
  repeat' first | refine St.go ?_ | ((with_reducible refine cn ?_ ?_) <;> intro h <;> (try simp [hab] at h) <;> try omega) | (refine Ru.go ?_; intro K hK; simp [go_sem, hab]; (try simp (disch := omega) only [wx, z_i]); (first | apply hK | refine ⟨ob, ?_⟩ | refine ⟨hK _ ?_, fun h => ?_⟩ | refine ⟨?_, ?_⟩); all_goals ((try apply hK); clear hK K))
  refine z_k (fun n e => ∃ k, k + n = a.length /\ ((a.zip b).take k).all (fun x => p x.1 x.2) = true /\ e = [(17, .sv (.one (.int .i64 (k : Nat)))), (16, .sv (.one (.int .i64 b.length))), (15, .sv (.one (.sl (a.map encDf)))), (0, .sv (.one (.sl (a.map encDf)))), (1, .sv (.one (.sl (b.map encDf)))), (2, .sv (.one (.fn g caps)))]) a.length _ ⟨0, by simp, by simp, rfl⟩ (by simp [go_sem, hab]) ?_
  rintro n e ⟨k, hk, htk, rfl⟩
  by_cases hlt : k < b.length
  ·have hlt' : k < a.length := by omega
   obtain ⟨x, hx⟩ : ∃ x, a[k] = x := ⟨_, rfl⟩
   obtain ⟨y, hy⟩ : ∃ y, b[k] = y := ⟨_, rfl⟩
   have k1 := hg x (hx ▸ List.getElem_mem hlt') y (hy ▸ List.getElem_mem hlt)
   have hzk := zip_at hlt' hlt
   rw [hx, hy] at hzk
   have hkz : k < (a.zip b).length := by omega
   simp only [encDf] at k1
   cases hp : p x y with
   | true =>
     rw [hp] at k1
     have q_ := aN hlt <| aN hlt' <| aN hx <| hy
     repeat' first | refine St.go ?_ | ((with_reducible refine cn ?_ ?_) <;> intro h <;> (try simp [q_] at h) <;> try omega) | (refine Ru.go ?_; intro K hK; simp [go_sem, encDf, q_]; (try simp (disch := omega) only [wx, z_i]); (first | apply hK | ((try refine .inl ?_); refine ⟨_, by (repeat' first | exact k1 | refine And.intro ?_ ?_ | simp [go_sem, encDf, q_]); first | done | omega, ?_⟩; first | apply hK | (refine ⟨by simp [go_sem, encDf, q_], ?_⟩; apply hK)) | refine ⟨ob, ?_⟩ | refine ⟨hK _ ?_, fun h => ?_⟩ | refine ⟨?_, ?_⟩); all_goals ((try apply hK); clear hK K))
     all_goals try clear q_
     refine z_j (n - 1) _ (by omega) ⟨k + 1, by omega, ?_, rfl⟩ ?_
     ·rw [List.take_succ_eq_append_getElem hkz, List.all_append, htk, hzk]
      simp [hp]
     ·simp [go_sem]
   | false =>
     rw [hp] at k1
     have hVf : V = false := by
      rw [hV, <- Bool.not_eq_true, List.all_eq_true]
      intro h0
      have := h0 _ (List.getElem_mem hkz)
      rw [hzk] at this
      simp [hp] at this
     have q_ := aN hlt <| aN hlt' <| aN hx <| hy
     repeat' first | refine St.go ?_ | ((with_reducible refine cn ?_ ?_) <;> intro h <;> (try simp [q_] at h) <;> try omega) | (refine Ru.go ?_; intro K hK; simp [go_sem, encDf, q_]; (try simp (disch := omega) only [wx, z_i]); (first | apply hK | ((try refine .inl ?_); refine ⟨_, by (repeat' first | exact k1 | refine And.intro ?_ ?_ | simp [go_sem, encDf, q_]); first | done | omega, ?_⟩; first | apply hK | (refine ⟨by simp [go_sem, encDf, q_], ?_⟩; apply hK)) | refine ⟨ob, ?_⟩ | refine ⟨hK _ ?_, fun h => ?_⟩ | refine ⟨?_, ?_⟩); all_goals ((try apply hK); clear hK K))
     all_goals try clear q_
     simp [go_sem, hVf]
  ·have hkl : (a.zip b).take k = a.zip b := List.take_of_length_le (by omega)
   rw [hkl, <- hV] at htk
   repeat' first | refine St.go ?_ | ((with_reducible refine cn ?_ ?_) <;> intro h <;> (try simp [hlt] at h) <;> try omega) | (refine Ru.go ?_; intro K hK; simp [go_sem, hlt]; (try simp (disch := omega) only [wx, z_i]); (first | apply hK | refine ⟨ob, ?_⟩ | refine ⟨hK _ ?_, fun h => ?_⟩ | refine ⟨?_, ?_⟩); all_goals ((try apply hK); clear hK K))
   simp [go_sem, htk]
 ·have hab' : ¬ (a.length : Int) = (b.length : Int) := by omega
  have he : eqF p a b = false := by simp [eqF, hab]
  rw [he]
  repeat' first | refine St.go ?_ | ((with_reducible refine cn ?_ ?_) <;> intro h <;> (try simp [hab, hab'] at h) <;> try omega) | (refine Ru.go ?_; intro K hK; simp [go_sem, hab, hab']; (try simp (disch := omega) only [wx, z_i]); (first | apply hK | refine ⟨ob, ?_⟩ | refine ⟨hK _ ?_, fun h => ?_⟩ | refine ⟨?_, ?_⟩); all_goals ((try apply hK); clear hK K))
  simp [go_sem]
theorem f92 (a b : List (Int × Int)) (g : FuncId) (caps : List DV) (p : Int × Int -> Int × Int -> Bool) (ha : a.length <= 1000000) (hb : b.length <= 1000000) (hg : ∀ x ∈ a, ∀ y ∈ b, Impl Tryz.prog g ([.ag (encEq x), .ag (encEq y)] ++ caps.map .one) (.one (.one (.bool (p x y))))) :
  Impl Tryz.prog 92 [.one (.sl (a.map encEq)), .one (.sl (b.map encEq)), .one (.fn g caps)] (.one (.one (.bool (eqF p a b)))) := by
 refine impl_w Tryz.func92 z92 Tryz.ntmps92 (by simp) ?_
 simp only [slotsOf]
 conv => arg 2; reduce
 by_cases hab : a.length = b.length
 ·have hz := zip_len hab
  rw [eqF_take hab]
  obtain ⟨V, hV⟩ : ∃ V, V = (a.zip b).all fun x => p x.1 x.2 := ⟨_, rfl⟩
  rw [<- hV]
  repeat' first | refine St.go ?_ | ((with_reducible refine cn ?_ ?_) <;> intro h <;> (try simp [hab] at h) <;> try omega) | (refine Ru.go ?_; intro K hK; simp [go_sem, hab]; (try simp (disch := omega) only [wx, z_i]); (first | apply hK | refine ⟨ob, ?_⟩ | refine ⟨hK _ ?_, fun h => ?_⟩ | refine ⟨?_, ?_⟩); all_goals ((try apply hK); clear hK K))
  refine z_k (fun n e => ∃ k, k + n = a.length /\ ((a.zip b).take k).all (fun x => p x.1 x.2) = true /\ e = [(17, .sv (.one (.int .i64 (k : Nat)))), (16, .sv (.one (.int .i64 b.length))), (15, .sv (.one (.sl (a.map encEq)))), (0, .sv (.one (.sl (a.map encEq)))), (1, .sv (.one (.sl (b.map encEq)))), (2, .sv (.one (.fn g caps)))]) a.length _ ⟨0, by simp, by simp, rfl⟩ (by simp [go_sem, hab]) ?_
  rintro n e ⟨k, hk, htk, rfl⟩
  by_cases hlt : k < b.length
  ·have hlt' : k < a.length := by omega
   obtain ⟨x, hx⟩ : ∃ x, a[k] = x := ⟨_, rfl⟩
   obtain ⟨y, hy⟩ : ∃ y, b[k] = y := ⟨_, rfl⟩
   have k1 := hg x (hx ▸ List.getElem_mem hlt') y (hy ▸ List.getElem_mem hlt)
   have hzk := zip_at hlt' hlt
   rw [hx, hy] at hzk
   have hkz : k < (a.zip b).length := by omega
   simp only [encEq] at k1
   cases hp : p x y with
   | true =>
     rw [hp] at k1
     have q_ := aN hlt <| aN hlt' <| aN hx <| hy
     repeat' first | refine St.go ?_ | ((with_reducible refine cn ?_ ?_) <;> intro h <;> (try simp [q_] at h) <;> try omega) | (refine Ru.go ?_; intro K hK; simp [go_sem, encEq, q_]; (try simp (disch := omega) only [wx, z_i]); (first | apply hK | ((try refine .inl ?_); refine ⟨_, by (repeat' first | exact k1 | refine And.intro ?_ ?_ | simp [go_sem, encEq, q_]); first | done | omega, ?_⟩; first | apply hK | (refine ⟨by simp [go_sem, encEq, q_], ?_⟩; apply hK)) | refine ⟨ob, ?_⟩ | refine ⟨hK _ ?_, fun h => ?_⟩ | refine ⟨?_, ?_⟩); all_goals ((try apply hK); clear hK K))
     all_goals try clear q_
     refine z_j (n - 1) _ (by omega) ⟨k + 1, by omega, ?_, rfl⟩ ?_
     ·rw [List.take_succ_eq_append_getElem hkz, List.all_append, htk, hzk]
      simp [hp]
     ·simp [go_sem]
   | false =>
     rw [hp] at k1
     have hVf : V = false := by
      rw [hV, <- Bool.not_eq_true, List.all_eq_true]
      intro h0
      have := h0 _ (List.getElem_mem hkz)
      rw [hzk] at this
      simp [hp] at this
     have q_ := aN hlt <| aN hlt' <| aN hx <| hy
     repeat' first | refine St.go ?_ | ((with_reducible refine cn ?_ ?_) <;> intro h <;> (try simp [q_] at h) <;> try omega) | (refine Ru.go ?_; intro K hK; simp [go_sem, encEq, q_]; (try simp (disch := omega) only [wx, z_i]); (first | apply hK | ((try refine .inl ?_); refine ⟨_, by (repeat' first | exact k1 | refine And.intro ?_ ?_ | simp [go_sem, encEq, q_]); first | done | omega, ?_⟩; first | apply hK | (refine ⟨by simp [go_sem, encEq, q_], ?_⟩; apply hK)) | refine ⟨ob, ?_⟩ | refine ⟨hK _ ?_, fun h => ?_⟩ | refine ⟨?_, ?_⟩); all_goals ((try apply hK); clear hK K))
     all_goals try clear q_
     simp [go_sem, hVf]
  ·have hkl : (a.zip b).take k = a.zip b := List.take_of_length_le (by omega)
   rw [hkl, <- hV] at htk
   repeat' first | refine St.go ?_ | ((with_reducible refine cn ?_ ?_) <;> intro h <;> (try simp [hlt] at h) <;> try omega) | (refine Ru.go ?_; intro K hK; simp [go_sem, hlt]; (try simp (disch := omega) only [wx, z_i]); (first | apply hK | refine ⟨ob, ?_⟩ | refine ⟨hK _ ?_, fun h => ?_⟩ | refine ⟨?_, ?_⟩); all_goals ((try apply hK); clear hK K))
   simp [go_sem, htk]
 ·have hab' : ¬ (a.length : Int) = (b.length : Int) := by omega
  have he : eqF p a b = false := by simp [eqF, hab]
  rw [he]
  repeat' first | refine St.go ?_ | ((with_reducible refine cn ?_ ?_) <;> intro h <;> (try simp [hab, hab'] at h) <;> try omega) | (refine Ru.go ?_; intro K hK; simp [go_sem, hab, hab']; (try simp (disch := omega) only [wx, z_i]); (first | apply hK | refine ⟨ob, ?_⟩ | refine ⟨hK _ ?_, fun h => ?_⟩ | refine ⟨?_, ?_⟩); all_goals ((try apply hK); clear hK K))
  simp [go_sem]
def sameV (u v : Vr) : Bool := (u.1 == v.1) && (u.2 == v.2)
def sameD (x y : List Vr) (d e : Dff) : Bool := sameV (nameOf x d.x) (nameOf y e.x) && (sameV (nameOf x d.y) (nameOf y e.y) && d.c == e.c)
def sameE (x y : List Vr) (d e : Int × Int) : Bool := sameV (nameOf x d.1) (nameOf y e.1) && sameV (nameOf x d.2) (nameOf y e.2)
theorem f90 (x y : List Vr) (d e : Dff) (h1 : d.x < x.length) (h2 : d.y < x.length) (h3 : e.x < y.length) (h4 : e.y < y.length) :
  Impl Tryz.prog 90 [.ag (encDf d), .ag (encDf e), .one (.rf [.sl (x.map encV)]), .one (.rf [.sl (y.map encV)])] (.one (.one (.bool (sameD x y d e)))) := by
 have k1 := f91 x d.x h1
 have k2 := f91 y e.x h3
 have k3 := f91 x d.y h2
 have k4 := f91 y e.y h4
 obtain ⟨⟨a1, a2⟩, ha⟩ : ∃ a, a = nameOf x d.x := ⟨_, rfl⟩
 obtain ⟨⟨b1, b2⟩, hb⟩ : ∃ a, a = nameOf y e.x := ⟨_, rfl⟩
 obtain ⟨⟨c1, c2⟩, hc⟩ : ∃ a, a = nameOf x d.y := ⟨_, rfl⟩
 obtain ⟨⟨d1, d2⟩, hd⟩ : ∃ a, a = nameOf y e.y := ⟨_, rfl⟩
 have hv : sameD x y d e = (sameV (a1, a2) (b1, b2) && (sameV (c1, c2) (d1, d2) && d.c == e.c)) := by unfold sameD; rw [ha, hb, hc, hd]
 rw [<- ha] at k1
 rw [<- hb] at k2
 rw [<- hc] at k3
 rw [<- hd] at k4
 rw [hv]
 clear hv ha hb hc hd
 simp only [encV] at k1 k2 k3 k4
 refine impl_w Tryz.func90 z90 Tryz.ntmps90 (by simp) ?_
 simp only [slotsOf]
 conv => arg 2; reduce
 cases q1 : sameV (a1, a2) (b1, b2) with
 | false =>
   have q1' : ((a1 == b1) && (a2 == b2)) = false := q1
   repeat' first | refine St.go ?_ | (refine Ru.go ?_; intro K hK; simp [go_sem, encDf, q1']; (try simp (disch := omega) only [wx, z_i]); (first | apply hK | ((try refine .inl ?_); refine ⟨_, by (try intro hc); (repeat' first | exact k1 | exact k2 | exact k3 | exact k4 | exact hc | refine And.intro ?_ ?_ | simp [go_sem, encDf, q1']); first | done | omega, ?_⟩; first | apply hK | (refine ⟨by simp [go_sem, encDf, q1'], ?_⟩; first | apply hK | refine ⟨by simp [go_sem, encDf, q1'], hK _ _ ?_⟩)) | refine ⟨.one (.one (.bool false)), by simp [go_sem, encDf, q1'], hK _ _ ?_⟩ | refine ⟨ob, ?_⟩ | refine ⟨hK _ ?_, fun h => ?_⟩ | refine ⟨?_, ?_⟩); all_goals ((try apply hK); clear hK K))
   simp [go_sem]
 | true =>
   have q1' : ((a1 == b1) && (a2 == b2)) = true := q1
   simp only [Bool.and_eq_true] at q1'
   cases q2 : sameV (c1, c2) (d1, d2) with
   | false =>
     have q2' : ((c1 == d1) && (c2 == d2)) = false := q2
     repeat' first | refine St.go ?_ | (refine Ru.go ?_; intro K hK; simp [go_sem, encDf, q1'.1, q1'.2, q2']; (try simp (disch := omega) only [wx, z_i]); (first | apply hK | ((try refine .inl ?_); refine ⟨_, by (try intro hc); (repeat' first | exact k1 | exact k2 | exact k3 | exact k4 | exact hc | refine And.intro ?_ ?_ | simp [go_sem, encDf, q1'.1, q1'.2, q2']); first | done | omega, ?_⟩; first | apply hK | (refine ⟨by simp [go_sem, encDf, q1'.1, q1'.2, q2'], ?_⟩; first | apply hK | refine ⟨by simp [go_sem, encDf, q1'.1, q1'.2, q2'], hK _ _ ?_⟩)) | refine ⟨.one (.one (.bool false)), by simp [go_sem, encDf, q1'.1, q1'.2, q2'], hK _ _ ?_⟩ | refine ⟨ob, ?_⟩ | refine ⟨hK _ ?_, fun h => ?_⟩ | refine ⟨?_, ?_⟩); all_goals ((try apply hK); clear hK K))
     simp [go_sem]
   | true =>
     have q2' : ((c1 == d1) && (c2 == d2)) = true := q2
     simp only [Bool.and_eq_true] at q2'
     repeat' first | refine St.go ?_ | (refine Ru.go ?_; intro K hK; simp [go_sem, encDf, q1'.1, q1'.2, q2'.1, q2'.2]; (try simp (disch := omega) only [wx, z_i]); (first | apply hK | ((try refine .inl ?_); refine ⟨_, by (try intro hc); (repeat' first | exact k1 | exact k2 | exact k3 | exact k4 | exact hc | refine And.intro ?_ ?_ | simp [go_sem, encDf, q1'.1, q1'.2, q2'.1, q2'.2]); first | done | omega, ?_⟩; first | apply hK | (refine ⟨by simp [go_sem, encDf, q1'.1, q1'.2, q2'.1, q2'.2], ?_⟩; first | apply hK | refine ⟨by simp [go_sem, encDf, q1'.1, q1'.2, q2'.1, q2'.2], hK _ _ ?_⟩)) | refine ⟨.one (.one (.bool false)), by simp [go_sem, encDf, q1'.1, q1'.2, q2'.1, q2'.2], hK _ _ ?_⟩ | refine ⟨ob, ?_⟩ | refine ⟨hK _ ?_, fun h => ?_⟩ | refine ⟨?_, ?_⟩); all_goals ((try apply hK); clear hK K))
     simp [go_sem]
theorem f93 (x y : List Vr) (d e : Int × Int) (h1 : d.1 < x.length) (h2 : d.2 < x.length) (h3 : e.1 < y.length) (h4 : e.2 < y.length) :
  Impl Tryz.prog 93 [.ag (encEq d), .ag (encEq e), .one (.rf [.sl (x.map encV)]), .one (.rf [.sl (y.map encV)])] (.one (.one (.bool (sameE x y d e)))) := by
 have k1 := f91 x d.1 h1
 have k2 := f91 y e.1 h3
 have k3 := f91 x d.2 h2
 have k4 := f91 y e.2 h4
 obtain ⟨⟨a1, a2⟩, ha⟩ : ∃ a, a = nameOf x d.1 := ⟨_, rfl⟩
 obtain ⟨⟨b1, b2⟩, hb⟩ : ∃ a, a = nameOf y e.1 := ⟨_, rfl⟩
 obtain ⟨⟨c1, c2⟩, hc⟩ : ∃ a, a = nameOf x d.2 := ⟨_, rfl⟩
 obtain ⟨⟨d1, d2⟩, hd⟩ : ∃ a, a = nameOf y e.2 := ⟨_, rfl⟩
 have hv : sameE x y d e = (sameV (a1, a2) (b1, b2) && sameV (c1, c2) (d1, d2)) := by unfold sameE; rw [ha, hb, hc, hd]
 rw [<- ha] at k1
 rw [<- hb] at k2
 rw [<- hc] at k3
 rw [<- hd] at k4
 rw [hv]
 clear hv ha hb hc hd
 simp only [encV] at k1 k2 k3 k4
 refine impl_w Tryz.func93 z93 Tryz.ntmps93 (by simp) ?_
 simp only [slotsOf]
 conv => arg 2; reduce
 cases q1 : sameV (a1, a2) (b1, b2) with
 | false =>
   have q1' : ((a1 == b1) && (a2 == b2)) = false := q1
   repeat' first | refine St.go ?_ | (refine Ru.go ?_; intro K hK; simp [go_sem, encEq, q1']; (try simp (disch := omega) only [wx, z_i]); (first | apply hK | ((try refine .inl ?_); refine ⟨_, by (try intro hc); (repeat' first | exact k1 | exact k2 | exact k3 | exact k4 | exact hc | refine And.intro ?_ ?_ | simp [go_sem, encEq, q1']); first | done | omega, ?_⟩; first | apply hK | (refine ⟨by simp [go_sem, encEq, q1'], ?_⟩; first | apply hK | refine ⟨by simp [go_sem, encEq, q1'], hK _ _ ?_⟩)) | refine ⟨.one (.one (.bool false)), by simp [go_sem, encEq, q1'], hK _ _ ?_⟩ | refine ⟨ob, ?_⟩ | refine ⟨hK _ ?_, fun h => ?_⟩ | refine ⟨?_, ?_⟩); all_goals ((try apply hK); clear hK K))
   simp [go_sem]
 | true =>
   have q1' : ((a1 == b1) && (a2 == b2)) = true := q1
   simp only [Bool.and_eq_true] at q1'
   repeat' first | refine St.go ?_ | (refine Ru.go ?_; intro K hK; simp [go_sem, encEq, q1'.1, q1'.2]; (try simp (disch := omega) only [wx, z_i]); (first | apply hK | ((try refine .inl ?_); refine ⟨_, by (try intro hc); (repeat' first | exact k1 | exact k2 | exact k3 | exact k4 | exact hc | refine And.intro ?_ ?_ | simp [go_sem, encEq, q1'.1, q1'.2]); first | done | omega, ?_⟩; first | apply hK | (refine ⟨by simp [go_sem, encEq, q1'.1, q1'.2], ?_⟩; first | apply hK | refine ⟨by simp [go_sem, encEq, q1'.1, q1'.2], hK _ _ ?_⟩)) | refine ⟨.one (.one (.bool false)), by simp [go_sem, encEq, q1'.1, q1'.2], hK _ _ ?_⟩ | refine ⟨ob, ?_⟩ | refine ⟨hK _ ?_, fun h => ?_⟩ | refine ⟨?_, ?_⟩); all_goals ((try apply hK); clear hK K))
   simp [go_sem, sameV]
def agreeB (x y : List Vr) (a b : Dcl) : Bool := decide (a.fields = b.fields) && (eqF (sameD x y) a.diffs b.diffs && eqF (sameE x y) a.equals b.equals)
theorem f46 (a b : Dcl) (x y : List Vr) (hf1 : a.fields.length <= 1000000) (hf2 : b.fields.length <= 1000000) (hd1 : a.diffs.length <= 1000000) (hd2 : b.diffs.length <= 1000000) (he1 : a.equals.length <= 1000000) (he2 : b.equals.length <= 1000000)
  (ha1 : ∀ d ∈ a.diffs, d.x < x.length /\ d.y < x.length) (hb1 : ∀ d ∈ b.diffs, d.x < y.length /\ d.y < y.length) (ha2 : ∀ d ∈ a.equals, d.1 < x.length /\ d.2 < x.length) (hb2 : ∀ d ∈ b.equals, d.1 < y.length /\ d.2 < y.length) :
  Impl Tryz.prog 46 [.ag (encD a), .ag (encD b), .one (.sl (x.map encV)), .one (.sl (y.map encV))] (.one (.one (.bool (agreeB x y a b)))) := by
 have k1 := f88 a.fields b.fields hf1 hf2
 have k2 := f89 a.diffs b.diffs 90 [.rf [.sl (x.map encV)], .rf [.sl (y.map encV)]] (sameD x y) hd1 hd2 (fun d hd e he => f90 x y d e (ha1 d hd).1 (ha1 d hd).2 (hb1 e he).1 (hb1 e he).2)
 have k3 := f92 a.equals b.equals 93 [.rf [.sl (x.map encV)], .rf [.sl (y.map encV)]] (sameE x y) he1 he2 (fun d hd e he => f93 x y d e (ha2 d hd).1 (ha2 d hd).2 (hb2 e he).1 (hb2 e he).2)
 obtain ⟨u, hu⟩ : ∃ u, u = decide (a.fields = b.fields) := ⟨_, rfl⟩
 obtain ⟨v, hv⟩ : ∃ v, v = eqF (sameD x y) a.diffs b.diffs := ⟨_, rfl⟩
 obtain ⟨w, hw⟩ : ∃ w, w = eqF (sameE x y) a.equals b.equals := ⟨_, rfl⟩
 have hA : agreeB x y a b = (u && (v && w)) := by unfold agreeB; rw [hu, hv, hw]
 rw [hA]
 rw [<- hu] at k1
 rw [<- hv] at k2
 rw [<- hw] at k3
 clear hu hv hw hA
 refine impl_w Tryz.func46 z46 Tryz.ntmps46 (by simp) ?_
 simp only [slotsOf]
 conv => arg 2; reduce
 cases u with
 | false =>
   repeat' first | refine St.go ?_ | (refine Ru.go ?_; intro K hK; simp [go_sem, encD, frzL, DV.frz]; (first | apply hK | ((try refine .inl ?_); refine ⟨_, by (try intro hc); (repeat' first | exact k1 | exact k2 | exact k3 | exact hc | refine And.intro ?_ ?_ | simp [go_sem, encD, frzL, DV.frz]); first | done | omega, ?_⟩; first | apply hK | (refine ⟨by simp [go_sem, encD, frzL, DV.frz], ?_⟩; apply hK)) | refine ⟨.one (.one (.bool false)), by simp [go_sem, encD, frzL, DV.frz], hK _ _ ?_⟩ | refine ⟨ob, ?_⟩ | refine ⟨hK _ ?_, fun h => ?_⟩ | refine ⟨?_, ?_⟩); all_goals ((try apply hK); clear hK K))
   simp [go_sem]
 | true =>
   cases v with
   | false =>
     repeat' first | refine St.go ?_ | (refine Ru.go ?_; intro K hK; simp [go_sem, encD, frzL, DV.frz]; (first | apply hK | ((try refine .inl ?_); refine ⟨_, by (try intro hc); (repeat' first | exact k1 | exact k2 | exact k3 | exact hc | refine And.intro ?_ ?_ | simp [go_sem, encD, frzL, DV.frz]); first | done | omega, ?_⟩; first | apply hK | (refine ⟨by simp [go_sem, encD, frzL, DV.frz], ?_⟩; apply hK)) | refine ⟨.one (.one (.bool false)), by simp [go_sem, encD, frzL, DV.frz], hK _ _ ?_⟩ | refine ⟨ob, ?_⟩ | refine ⟨hK _ ?_, fun h => ?_⟩ | refine ⟨?_, ?_⟩); all_goals ((try apply hK); clear hK K))
     simp [go_sem]
   | true =>
     repeat' first | refine St.go ?_ | (refine Ru.go ?_; intro K hK; simp [go_sem, encD, frzL, DV.frz]; (first | apply hK | ((try refine .inl ?_); refine ⟨_, by (try intro hc); (repeat' first | exact k1 | exact k2 | exact k3 | exact hc | refine And.intro ?_ ?_ | simp [go_sem, encD, frzL, DV.frz]); first | done | omega, ?_⟩; first | apply hK | (refine ⟨by simp [go_sem, encD, frzL, DV.frz], ?_⟩; apply hK)) | refine ⟨.one (.one (.bool false)), by simp [go_sem, encD, frzL, DV.frz], hK _ _ ?_⟩ | refine ⟨ob, ?_⟩ | refine ⟨hK _ ?_, fun h => ?_⟩ | refine ⟨?_, ?_⟩); all_goals ((try apply hK); clear hK K))
     simp [go_sem]
def inD (x : Int) (d : Dcl) : Bool := decide (d.first <= x) && decide (x < d.first + d.fields.length)
def nameR (l : List Dcl) (x : Int) : Vr := match l.find? (inD x) with
 | some d => match d.fields[(x - d.first).toNat]? with
   | some f => (d.name, f.name)
   | none => (⟨#[]⟩, ⟨#[]⟩)
 | none => (⟨#[]⟩, ⟨#[]⟩)
theorem find_at {α : Type} {p : α -> Bool} {l : List α} {k : Nat} (hk : k < l.length) (h0 : (l.take k).any p = false) (h1 : p l[k] = true) : l.find? p = some l[k] := by
 rw [List.find?_eq_some_iff_getElem]
 refine ⟨h1, k, hk, rfl, fun j hj => ?_⟩
 rw [List.any_eq_false] at h0
 have := h0 (l[j]'(by omega)) (List.mem_iff_getElem.2 ⟨j, by rw [List.length_take]; omega, by simp⟩)
 simpa using this
theorem find_none {α : Type} {p : α -> Bool} {l : List α} (h : l.any p = false) : l.find? p = none := by
 rw [List.find?_eq_none]
 intro x hx
 rw [List.any_eq_false] at h
 simpa using h x hx
theorem f111 (g : Glob) (x : Int) (hl : g.decls.length <= 1000000) (hb : ∀ d ∈ g.decls, -1000000000 <= d.first /\ d.first <= 1000000000 /\ d.fields.length <= 1000000) (hx : -1000000000 <= x /\ x <= 1000000000) :
  Impl Tryz.prog 111 [.ag (encG g), .one (.int .i64 x)] (.tup [.one (.str (nameR g.decls x).1), .one (.str (nameR g.decls x).2)]) := by
 refine impl_z Tryz.func111 z111 Tryz.ntmps111 (by simp) ?_
 simp only [c111, slotsOf]
 repeat' first | refine St.go ?_ | ((with_reducible refine cn ?_ ?_) <;> intro h <;> (try simp at h) <;> try omega) | (refine Ru.go ?_; intro K hK; simp [go_sem, encG]; (try simp (disch := omega) only [wx, z_i]); (first | apply hK | refine ⟨ob, ?_⟩ | refine ⟨hK _ ?_, fun h => ?_⟩ | refine ⟨?_, ?_⟩); all_goals ((try apply hK); clear hK K))
 refine z_k (fun n e => ∃ k : Nat, k + n = g.decls.length /\ (g.decls.take k).any (inD x) = false /\ e = [(6, .sv (.one (.int .i64 k))), (2, .sv (.one (.bx (encG g)))), (1, .sv (.one (.int .i64 x)))]) g.decls.length _ ⟨0, by simp, by simp, rfl⟩ (by simp [go_sem, encG]) ?_
 rintro n e ⟨k, hk, h0, rfl⟩
 by_cases hlt : k < g.decls.length
 ·obtain ⟨d, hd⟩ : ∃ d, g.decls[k] = d := ⟨_, rfl⟩
  obtain ⟨b1, b2, b3⟩ := hb d (hd ▸ List.getElem_mem hlt)
  by_cases h1 : d.first <= x
  ·by_cases h2 : x < d.first + d.fields.length
   ·have hfi := find_at (p := inD x) hlt h0 (by rw [hd]; simp [inD, h1, h2])
    have hlt2 : (x - d.first).toNat < d.fields.length := by omega
    obtain ⟨f, hf⟩ : ∃ f, d.fields[(x - d.first).toNat] = f := ⟨_, rfl⟩
    have hn : nameR g.decls x = (d.name, f.name) := by unfold nameR; rw [hfi, hd]; simp only; rw [List.getElem?_eq_getElem hlt2, hf]
    rw [hn]
    have h3 : 0 <= x - d.first := by omega
    have q_ := aN hlt <| aN hd <| aN h1 <| aN h2 <| aN h3 <| aN hlt2 <| hf
    repeat' first | refine St.go ?_ | ((with_reducible refine cn ?_ ?_) <;> intro h <;> (try simp [q_] at h) <;> try omega) | (refine Ru.go ?_; intro K hK; simp [go_sem, encG, encD, encF, q_]; (try simp (disch := omega) only [wx, z_i]); (first | apply hK | refine ⟨ob, ?_⟩ | refine ⟨hK _ ?_, fun h => ?_⟩ | refine ⟨?_, ?_⟩); all_goals ((try apply hK); clear hK K))
    all_goals try clear q_
    simp [go_sem]
   ·have hin : inD x d = false := by simp [inD, h2]
    repeat' first | refine St.go ?_ | ((with_reducible refine cn ?_ ?_) <;> intro h <;> (try simp [hlt, hd, h1, h2] at h) <;> try omega) | (refine Ru.go ?_; intro K hK; simp [go_sem, hlt, hd, encG, encD, h1, h2]; (try simp (disch := omega) only [wx, z_i]); (first | apply hK | refine ⟨ob, ?_⟩ | refine ⟨hK _ ?_, fun h => ?_⟩ | refine ⟨?_, ?_⟩); all_goals ((try apply hK); clear hK K))
    refine z_j (n - 1) _ (by omega) ⟨k + 1, by omega, ?_, rfl⟩ ?_
    ·rw [any_succ hlt, h0, hd, hin]; rfl
    ·simp [go_sem, encG]
  ·have hin : inD x d = false := by simp [inD, h1]
   have q_ := aN hlt <| aN hd <| h1
   repeat' first | refine St.go ?_ | ((with_reducible refine cn ?_ ?_) <;> intro h <;> (try simp [q_] at h) <;> try omega) | (refine Ru.go ?_; intro K hK; simp [go_sem, encG, encD, q_]; (try simp (disch := omega) only [wx, z_i]); (first | apply hK | ((try refine .inl ?_); refine ⟨_, by (repeat' first | exact trivial | refine And.intro ?_ ?_ | simp [go_sem, encG, encD, q_]); first | done | omega, ?_⟩; first | apply hK | (refine ⟨by simp [go_sem, encG, encD, q_], ?_⟩; first | apply hK | refine ⟨by simp [go_sem, encG, encD, q_], hK _ _ ?_⟩)) | refine ⟨ob, ?_⟩ | refine ⟨hK _ ?_, fun h => ?_⟩ | refine ⟨?_, ?_⟩); all_goals ((try apply hK); clear hK K))
   all_goals try clear q_
   refine z_j (n - 1) _ (by omega) ⟨k + 1, by omega, ?_, rfl⟩ ?_
   ·rw [any_succ hlt, h0, hd, hin]; rfl
   ·simp [go_sem, encG]
 ·have hkl : g.decls.take k = g.decls := List.take_of_length_le (by omega)
  rw [hkl] at h0
  have hf := find_none h0
  have hn : nameR g.decls x = (⟨#[]⟩, ⟨#[]⟩) := by unfold nameR; rw [hf]
  rw [hn]
  repeat' first | refine St.go ?_ | ((with_reducible refine cn ?_ ?_) <;> intro h <;> (try simp [hlt] at h) <;> try omega) | (refine Ru.go ?_; intro K hK; simp [go_sem, hlt, encG]; (try simp (disch := omega) only [wx, z_i]); (first | apply hK | refine ⟨ob, ?_⟩ | refine ⟨hK _ ?_, fun h => ?_⟩ | refine ⟨?_, ?_⟩); all_goals ((try apply hK); clear hK K))
  simp [go_sem]
def SmallN (g : Glob) : Prop := g.decls.length <= 1000000 /\ ∀ d ∈ g.decls, -1000000000 <= d.first /\ d.first <= 1000000000 /\ d.fields.length <= 1000000
theorem f95 (a b : Glob) (x y : Int) (ha : SmallN a) (hb : SmallN b) (hx : -1000000000 <= x /\ x <= 1000000000) (hy : -1000000000 <= y /\ y <= 1000000000) :
  Impl Tryz.prog 95 [.ag (encG a), .one (.int .i64 x), .ag (encG b), .one (.int .i64 y)] (.one (.one (.bool (sameV (nameR a.decls x) (nameR b.decls y))))) := by
 have k1 := f111 a x ha.1 ha.2 hx
 have k2 := f111 b y hb.1 hb.2 hy
 obtain ⟨⟨a1, a2⟩, hn⟩ : ∃ v, v = nameR a.decls x := ⟨_, rfl⟩
 obtain ⟨⟨b1, b2⟩, hm⟩ : ∃ v, v = nameR b.decls y := ⟨_, rfl⟩
 rw [<- hn] at k1 ⊢
 rw [<- hm] at k2 ⊢
 clear hn hm
 simp only [encG] at k1 k2
 refine impl_w Tryz.func95 z95 Tryz.ntmps95 (by simp) ?_
 simp only [slotsOf]
 conv => arg 2; reduce
 cases q1 : (a1 == b1) with
 | false =>
   repeat' first | refine St.go ?_ | (refine Ru.go ?_; intro K hK; simp [go_sem, encG, q1]; (first | apply hK | ((try refine .inl ?_); refine ⟨_, by (repeat' first | exact k1 | exact k2 | refine And.intro ?_ ?_ | simp [go_sem, encG, q1]); first | done | omega, ?_⟩; first | apply hK | (refine ⟨by simp [go_sem, encG, q1], ?_⟩; apply hK)) | refine ⟨ob, ?_⟩ | refine ⟨hK _ ?_, fun h => ?_⟩ | refine ⟨?_, ?_⟩); all_goals ((try apply hK); clear hK K))
   simp [go_sem, sameV, q1]
 | true =>
   repeat' first | refine St.go ?_ | (refine Ru.go ?_; intro K hK; simp [go_sem, encG, q1]; (first | apply hK | ((try refine .inl ?_); refine ⟨_, by (repeat' first | exact k1 | exact k2 | refine And.intro ?_ ?_ | simp [go_sem, encG, q1]); first | done | omega, ?_⟩; first | apply hK | (refine ⟨by simp [go_sem, encG, q1], ?_⟩; apply hK)) | refine ⟨ob, ?_⟩ | refine ⟨hK _ ?_, fun h => ?_⟩ | refine ⟨?_, ?_⟩); all_goals ((try apply hK); clear hK K))
   simp [go_sem, sameV, q1]
structure Tab where
 old : Glob
 new : Glob
 labels : List Int
 pairs : List (Int × Int)
 good : List Bool
def encTab (t : Tab) : List DV := encG t.old ++ (encG t.new ++ [.sl (t.labels.map encN), .sl (t.pairs.map encEq), .sl (t.good.map encBl)])
def renB (l : List Int) (a : Inter) : Inter × Bool := if 0 <= a.label /\ a.label < l.length /\ 0 <= l.getD a.label.toNat 0 then (⟨a.from_, a.to, l.getD a.label.toNat 0⟩, true) else (⟨0, 0, 0⟩, false)
def folE : List Edg -> Int -> Inter -> Bool -> Int
 | [], _, _, _ => -1
 | x :: es, s, a, b => if x.from_ = s /\ actEq x.act a = true /\ x.again = b then x.to else folE es s a b
def folB (t : Tab) (s : Int) (x : Edg) : Int := if 0 <= s /\ (renB t.labels x.act).2 = true then folE t.new.edges s (renB t.labels x.act).1 x.again else -1
theorem folE_at {es : List Edg} {s : Int} {a : Inter} {b : Bool} {k : Nat} (hk : k < es.length) : folE (es.drop k) s a b = if es[k].from_ = s /\ actEq es[k].act a = true /\ es[k].again = b then es[k].to else folE (es.drop (k + 1)) s a b := by
 rw [List.drop_eq_getElem_cons hk]
 rfl
theorem f54 (l : List (Int × Int)) (p : Int × Int) (hl : l.length <= 1000000) : Impl Tryz.prog 54 [.one (.sl (l.map encEq)), .ag (encEq p)] (.one (.one (.int .i64 (firstB (fun x => x.1 == p.1 && x.2 == p.2) l)))) := by
 refine impl_w Tryz.func54 z54 Tryz.ntmps54 (by simp) ?_
 simp only [slotsOf]
 conv => arg 2; reduce
 repeat' first | refine St.go ?_ | ((with_reducible refine cn ?_ ?_) <;> intro h <;> (try simp at h) <;> try omega) | (refine Ru.go ?_; intro K hK; simp [go_sem, encEq]; (try simp (disch := omega) only [wx, z_i]); (first | apply hK | refine ⟨ob, ?_⟩ | refine ⟨hK _ ?_, fun h => ?_⟩ | refine ⟨?_, ?_⟩); all_goals ((try apply hK); clear hK K))
 refine z_k (fun n e => ∃ k : Nat, k + n = l.length /\ (l.take k).any (fun x => x.1 == p.1 && x.2 == p.2) = false /\ e = [(5, .sv (.one (.int .i64 k))), (3, .sv (.one (.bx (encEq p)))), (0, .sv (.one (.sl (l.map encEq))))]) l.length _ ⟨0, by simp, by simp, rfl⟩ (by simp [go_sem, encEq]) ?_
 rintro n e ⟨k, hk, h0, rfl⟩
 by_cases hlt : k < l.length
 ·obtain ⟨⟨x1, x2⟩, hx⟩ : ∃ x, l[k] = x := ⟨_, rfl⟩
  cases hp : (x1 == p.1 && x2 == p.2) with
  | true =>
    have hf := firstB_at (p := fun x : Int × Int => x.1 == p.1 && x.2 == p.2) hlt h0 (by rw [hx]; exact hp)
    simp only [Bool.and_eq_true] at hp
    repeat' first | refine St.go ?_ | ((with_reducible refine cn ?_ ?_) <;> intro h <;> (try simp [hlt, hx] at h) <;> try omega) | (refine Ru.go ?_; intro K hK; simp [go_sem, hlt, hx, encEq, hp.1, hp.2]; (try simp (disch := omega) only [wx, z_i]); (first | apply hK | refine ⟨ob, ?_⟩ | refine ⟨hK _ ?_, fun h => ?_⟩ | refine ⟨?_, ?_⟩); all_goals ((try apply hK); clear hK K))
    simp [go_sem, hf]
  | false =>
    repeat' first | refine St.go ?_ | ((with_reducible refine cn ?_ ?_) <;> intro h <;> (try simp [hlt, hx, hp] at h) <;> try omega) | (refine Ru.go ?_; intro K hK; simp [go_sem, hlt, hx, encEq, hp]; (try simp (disch := omega) only [wx, z_i]); (first | apply hK | refine ⟨ob, ?_⟩ | refine ⟨hK _ ?_, fun h => ?_⟩ | refine ⟨?_, ?_⟩); all_goals ((try apply hK); clear hK K))
    refine z_j (n - 1) _ (by omega) ⟨k + 1, by omega, ?_, rfl⟩ ?_
    ·rw [any_succ hlt, h0, hx]; simp only; rw [hp]; rfl
    ·simp [go_sem, encEq]
 ·have hkl : l.take k = l := List.take_of_length_le (by omega)
  rw [hkl] at h0
  have hf := firstB_none h0
  repeat' first | refine St.go ?_ | ((with_reducible refine cn ?_ ?_) <;> intro h <;> (try simp [hlt] at h) <;> try omega) | (refine Ru.go ?_; intro K hK; simp [go_sem, hlt]; (try simp (disch := omega) only [wx, z_i]); (first | apply hK | refine ⟨ob, ?_⟩ | refine ⟨hK _ ?_, fun h => ?_⟩ | refine ⟨?_, ?_⟩); all_goals ((try apply hK); clear hK K))
  simp [go_sem, hf]
theorem f57 (l : List (Int × Int)) (p : Int × Int) (hl : l.length <= 1000000) : Impl Tryz.prog 57 [.one (.sl (l.map encEq)), .ag (encEq p)] (.one (.one (.int .i64 (firstB (fun x => p.1 == x.1 && p.2 == x.2) l)))) := by
 refine impl_w Tryz.func57 z57 Tryz.ntmps57 (by simp) ?_
 simp only [slotsOf]
 conv => arg 2; reduce
 repeat' first | refine St.go ?_ | ((with_reducible refine cn ?_ ?_) <;> intro h <;> (try simp at h) <;> try omega) | (refine Ru.go ?_; intro K hK; simp [go_sem, encEq]; (try simp (disch := omega) only [wx, z_i]); (first | apply hK | refine ⟨ob, ?_⟩ | refine ⟨hK _ ?_, fun h => ?_⟩ | refine ⟨?_, ?_⟩); all_goals ((try apply hK); clear hK K))
 refine z_k (fun n e => ∃ k : Nat, k + n = l.length /\ (l.take k).any (fun x => p.1 == x.1 && p.2 == x.2) = false /\ e = [(8, .sv (.one (.int .i64 k))), (7, .sv (.one (.int .i64 l.length))), (3, .sv (.one (.bx (encEq p)))), (0, .sv (.one (.sl (l.map encEq))))]) l.length _ ⟨0, by simp, by simp, rfl⟩ (by simp [go_sem, encEq]) ?_
 rintro n e ⟨k, hk, h0, rfl⟩
 by_cases hlt : k < l.length
 ·obtain ⟨⟨x1, x2⟩, hx⟩ : ∃ x, l[k] = x := ⟨_, rfl⟩
  cases hp : (p.1 == x1 && p.2 == x2) with
  | true =>
    have hf := firstB_at (p := fun x : Int × Int => p.1 == x.1 && p.2 == x.2) hlt h0 (by rw [hx]; exact hp)
    simp only [Bool.and_eq_true] at hp
    repeat' first | refine St.go ?_ | ((with_reducible refine cn ?_ ?_) <;> intro h <;> (try simp [hlt, hx] at h) <;> try omega) | (refine Ru.go ?_; intro K hK; simp [go_sem, hlt, hx, encEq, hp.1, hp.2]; (try simp (disch := omega) only [wx, z_i]); (first | apply hK | refine ⟨ob, ?_⟩ | refine ⟨hK _ ?_, fun h => ?_⟩ | refine ⟨?_, ?_⟩); all_goals ((try apply hK); clear hK K))
    simp [go_sem, hf]
  | false =>
    repeat' first | refine St.go ?_ | ((with_reducible refine cn ?_ ?_) <;> intro h <;> (try simp [hlt, hx, hp] at h) <;> try omega) | (refine Ru.go ?_; intro K hK; simp [go_sem, hlt, hx, encEq, hp]; (try simp (disch := omega) only [wx, z_i]); (first | apply hK | refine ⟨ob, ?_⟩ | refine ⟨hK _ ?_, fun h => ?_⟩ | refine ⟨?_, ?_⟩); all_goals ((try apply hK); clear hK K))
    refine z_j (n - 1) _ (by omega) ⟨k + 1, by omega, ?_, rfl⟩ ?_
    ·rw [any_succ hlt, h0, hx]; simp only; rw [hp]; rfl
    ·simp [go_sem, encEq]
 ·have hkl : l.take k = l := List.take_of_length_le (by omega)
  rw [hkl] at h0
  have hf := firstB_none h0
  repeat' first | refine St.go ?_ | ((with_reducible refine cn ?_ ?_) <;> intro h <;> (try simp [hlt] at h) <;> try omega) | (refine Ru.go ?_; intro K hK; simp [go_sem, hlt]; (try simp (disch := omega) only [wx, z_i]); (first | apply hK | refine ⟨ob, ?_⟩ | refine ⟨hK _ ?_, fun h => ?_⟩ | refine ⟨?_, ?_⟩); all_goals ((try apply hK); clear hK K))
  simp [go_sem, hf]
theorem f24 (t : Tab) (a : Inter) : Impl Tryz.prog 24 [.ag (encTab t), .ag (encI a)] (.tup [.ag (encI (renB t.labels a).1), .one (.bool (renB t.labels a).2)]) := by
 refine impl_w Tryz.func24 z24 Tryz.ntmps24 (by simp) ?_
 simp only [slotsOf]
 conv => arg 2; reduce
 by_cases h1 : 0 <= a.label
 ·by_cases h2 : a.label < t.labels.length
  ·have hlt : a.label.toNat < t.labels.length := by omega
   obtain ⟨v, hv⟩ : ∃ v, t.labels[a.label.toNat] = v := ⟨_, rfl⟩
   have hg : t.labels.getD a.label.toNat 0 = v := by rw [List.getD_eq_getElem?_getD, List.getElem?_eq_getElem hlt, hv]; rfl
   have n1 : ¬ a.label < 0 := by omega
   have n2 : ¬ (t.labels.length : Int) <= a.label := by omega
   by_cases h3 : 0 <= v
   ·have hr : renB t.labels a = (⟨a.from_, a.to, v⟩, true) := by unfold renB; rw [hg, if_pos ⟨h1, h2, h3⟩]
    have n3 : ¬ v < 0 := by omega
    rw [hr]
    have q_ := aN n1 <| aN n2 <| aN n3 <| aN h1 <| aN hlt <| hv
    repeat' first | refine St.go ?_ | ((with_reducible refine cn ?_ ?_) <;> intro h <;> (try simp [q_] at h) <;> try omega) | (refine Ru.go ?_; intro K hK; simp [go_sem, encTab, encG, encI, encN, q_]; (first | apply hK | refine ⟨ob, ?_⟩ | refine ⟨hK _ ?_, fun h => ?_⟩ | refine ⟨?_, ?_⟩); all_goals ((try apply hK); clear hK K))
    all_goals try clear q_
    simp [go_sem, encI]
   ·have hr : renB t.labels a = (⟨0, 0, 0⟩, false) := by unfold renB; rw [hg, if_neg (fun h => h3 h.2.2)]
    have n3 : v < 0 := by omega
    rw [hr]
    have q_ := aN n1 <| aN n2 <| aN n3 <| aN h1 <| aN hlt <| hv
    repeat' first | refine St.go ?_ | ((with_reducible refine cn ?_ ?_) <;> intro h <;> (try simp [q_] at h) <;> try omega) | (refine Ru.go ?_; intro K hK; simp [go_sem, encTab, encG, encI, encN, q_]; (first | apply hK | refine ⟨ob, ?_⟩ | refine ⟨hK _ ?_, fun h => ?_⟩ | refine ⟨?_, ?_⟩); all_goals ((try apply hK); clear hK K))
    all_goals try clear q_
    simp [go_sem, encI]
  ·have hr : renB t.labels a = (⟨0, 0, 0⟩, false) := by unfold renB; rw [if_neg (fun h => h2 h.2.1)]
   have n1 : ¬ a.label < 0 := by omega
   have n2 : (t.labels.length : Int) <= a.label := by omega
   have n3 : t.labels[a.label.toNat]? = none := List.getElem?_eq_none (by omega)
   rw [hr]
   repeat' first | refine St.go ?_ | ((with_reducible refine cn ?_ ?_) <;> intro h <;> (try simp [n1, n2, n3] at h) <;> try omega) | (refine Ru.go ?_; intro K hK; simp [go_sem, encTab, encG, encI, encN, n1, n2, n3]; (first | apply hK | refine ⟨ob, ?_⟩ | refine ⟨hK _ ?_, fun h => ?_⟩ | refine ⟨?_, ?_⟩); all_goals ((try apply hK); clear hK K))
   simp [go_sem, encI]
 ·have hr : renB t.labels a = (⟨0, 0, 0⟩, false) := by unfold renB; rw [if_neg (fun h => h1 h.1)]
  have n1 : a.label < 0 := by omega
  rw [hr]
  cases hv : t.labels[a.label.toNat]? with
  | none =>
    repeat' first | refine St.go ?_ | ((with_reducible refine cn ?_ ?_) <;> intro h <;> (try simp [n1, hv] at h) <;> try omega) | (refine Ru.go ?_; intro K hK; simp [go_sem, encTab, encG, encI, encN, n1, hv]; (first | apply hK | refine ⟨ob, ?_⟩ | refine ⟨hK _ ?_, fun h => ?_⟩ | refine ⟨?_, ?_⟩); all_goals ((try apply hK); clear hK K))
    simp [go_sem, encI]
  | some v =>
    repeat' first | refine St.go ?_ | ((with_reducible refine cn ?_ ?_) <;> intro h <;> (try simp [n1, hv] at h) <;> try omega) | (refine Ru.go ?_; intro K hK; simp [go_sem, encTab, encG, encI, encN, n1, hv]; (first | apply hK | refine ⟨ob, ?_⟩ | refine ⟨hK _ ?_, fun h => ?_⟩ | refine ⟨?_, ?_⟩); all_goals ((try apply hK); clear hK K))
    simp [go_sem, encI]
theorem f25 (t : Tab) (a : Inter) : Impl Tryz.prog 25 [.ag (encTab t), .ag (encI a)] (.tup [.ag (encI (renB t.labels a).1), .one (.bool (renB t.labels a).2)]) := by
 refine impl_w Tryz.func25 z25 Tryz.ntmps25 (by simp) ?_
 simp only [slotsOf]
 conv => arg 2; reduce
 by_cases h1 : 0 <= a.label
 ·by_cases h2 : a.label < t.labels.length
  ·have hlt : a.label.toNat < t.labels.length := by omega
   obtain ⟨v, hv⟩ : ∃ v, t.labels[a.label.toNat] = v := ⟨_, rfl⟩
   have hg : t.labels.getD a.label.toNat 0 = v := by rw [List.getD_eq_getElem?_getD, List.getElem?_eq_getElem hlt, hv]; rfl
   have n1 : ¬ a.label < 0 := by omega
   have n2 : ¬ (t.labels.length : Int) <= a.label := by omega
   by_cases h3 : 0 <= v
   ·have hr : renB t.labels a = (⟨a.from_, a.to, v⟩, true) := by unfold renB; rw [hg, if_pos ⟨h1, h2, h3⟩]
    have n3 : ¬ v < 0 := by omega
    rw [hr]
    have q_ := aN n1 <| aN n2 <| aN n3 <| aN h1 <| aN hlt <| hv
    repeat' first | refine St.go ?_ | ((with_reducible refine cn ?_ ?_) <;> intro h <;> (try simp [q_] at h) <;> try omega) | (refine Ru.go ?_; intro K hK; simp [go_sem, encTab, encG, encI, encN, q_]; (first | apply hK | refine ⟨ob, ?_⟩ | refine ⟨hK _ ?_, fun h => ?_⟩ | refine ⟨?_, ?_⟩); all_goals ((try apply hK); clear hK K))
    all_goals try clear q_
    simp [go_sem, encI]
   ·have hr : renB t.labels a = (⟨0, 0, 0⟩, false) := by unfold renB; rw [hg, if_neg (fun h => h3 h.2.2)]
    have n3 : v < 0 := by omega
    rw [hr]
    have q_ := aN n1 <| aN n2 <| aN n3 <| aN h1 <| aN hlt <| hv
    repeat' first | refine St.go ?_ | ((with_reducible refine cn ?_ ?_) <;> intro h <;> (try simp [q_] at h) <;> try omega) | (refine Ru.go ?_; intro K hK; simp [go_sem, encTab, encG, encI, encN, q_]; (first | apply hK | refine ⟨ob, ?_⟩ | refine ⟨hK _ ?_, fun h => ?_⟩ | refine ⟨?_, ?_⟩); all_goals ((try apply hK); clear hK K))
    all_goals try clear q_
    simp [go_sem, encI]
  ·have hr : renB t.labels a = (⟨0, 0, 0⟩, false) := by unfold renB; rw [if_neg (fun h => h2 h.2.1)]
   have n1 : ¬ a.label < 0 := by omega
   have n2 : (t.labels.length : Int) <= a.label := by omega
   have n3 : t.labels[a.label.toNat]? = none := List.getElem?_eq_none (by omega)
   rw [hr]
   repeat' first | refine St.go ?_ | ((with_reducible refine cn ?_ ?_) <;> intro h <;> (try simp [n1, n2, n3] at h) <;> try omega) | (refine Ru.go ?_; intro K hK; simp [go_sem, encTab, encG, encI, encN, n1, n2, n3]; (first | apply hK | refine ⟨ob, ?_⟩ | refine ⟨hK _ ?_, fun h => ?_⟩ | refine ⟨?_, ?_⟩); all_goals ((try apply hK); clear hK K))
   simp [go_sem, encI]
 ·have hr : renB t.labels a = (⟨0, 0, 0⟩, false) := by unfold renB; rw [if_neg (fun h => h1 h.1)]
  have n1 : a.label < 0 := by omega
  rw [hr]
  cases hv : t.labels[a.label.toNat]? with
  | none =>
    repeat' first | refine St.go ?_ | ((with_reducible refine cn ?_ ?_) <;> intro h <;> (try simp [n1, hv] at h) <;> try omega) | (refine Ru.go ?_; intro K hK; simp [go_sem, encTab, encG, encI, encN, n1, hv]; (first | apply hK | refine ⟨ob, ?_⟩ | refine ⟨hK _ ?_, fun h => ?_⟩ | refine ⟨?_, ?_⟩); all_goals ((try apply hK); clear hK K))
    simp [go_sem, encI]
  | some v =>
    repeat' first | refine St.go ?_ | ((with_reducible refine cn ?_ ?_) <;> intro h <;> (try simp [n1, hv] at h) <;> try omega) | (refine Ru.go ?_; intro K hK; simp [go_sem, encTab, encG, encI, encN, n1, hv]; (first | apply hK | refine ⟨ob, ?_⟩ | refine ⟨hK _ ?_, fun h => ?_⟩ | refine ⟨?_, ?_⟩); all_goals ((try apply hK); clear hK K))
    simp [go_sem, encI]
theorem f47 (t : Tab) (s : Int) (x : Edg) (hl : t.new.edges.length <= 1000000) : Impl Tryz.prog 47 [.ag (encTab t), .one (.int .i64 s), .ag (encEd x)] (.one (.one (.int .i64 (folB t s x)))) := by
 have k1 := f24 t x.act
 obtain ⟨⟨⟨r1, r2, r3⟩, b⟩, hr⟩ : ∃ v, renB t.labels x.act = v := ⟨_, rfl⟩
 rw [hr] at k1
 simp only [encTab, encG, encI, List.cons_append, List.nil_append] at k1
 have hfo : folB t s x = if 0 <= s /\ b = true then folE t.new.edges s ⟨r1, r2, r3⟩ x.again else -1 := by unfold folB; rw [hr]
 rw [hfo]
 clear hr hfo
 refine impl_w Tryz.func47 z47 Tryz.ntmps47 (by simp) ?_
 simp only [slotsOf]
 conv => arg 2; reduce
 cases b with
 | false =>
   repeat' first | refine St.go ?_ | ((with_reducible refine cn ?_ ?_) <;> intro h <;> (try simp at h) <;> try omega) | (refine Ru.go ?_; intro K hK; simp [go_sem, encTab, encG, encI, encEd]; (try simp (disch := omega) only [wx, z_i]); (first | apply hK | ((try refine .inl ?_); refine ⟨_, by (repeat' first | exact k1 | refine And.intro ?_ ?_ | simp [go_sem, encTab, encG, encI, encEd]); first | done | omega, ?_⟩; first | apply hK | (refine ⟨by simp [go_sem, encTab, encG, encI, encEd], ?_⟩; apply hK)) | refine ⟨ob, ?_⟩ | refine ⟨hK _ ?_, fun h => ?_⟩ | refine ⟨?_, ?_⟩); all_goals ((try apply hK); clear hK K))
   simp [go_sem]
 | true =>
   by_cases hh : s < 0
   ·rw [if_neg (fun q => by omega)]
    repeat' first | refine St.go ?_ | ((with_reducible refine cn ?_ ?_) <;> intro h <;> (try simp [hh] at h) <;> try omega) | (refine Ru.go ?_; intro K hK; simp [go_sem, encTab, encG, encI, encEd, hh]; (try simp (disch := omega) only [wx, z_i]); (first | apply hK | ((try refine .inl ?_); refine ⟨_, by (repeat' first | exact k1 | refine And.intro ?_ ?_ | simp [go_sem, encTab, encG, encI, encEd, hh]); first | done | omega, ?_⟩; first | apply hK | (refine ⟨by simp [go_sem, encTab, encG, encI, encEd, hh], ?_⟩; apply hK)) | refine ⟨ob, ?_⟩ | refine ⟨hK _ ?_, fun h => ?_⟩ | refine ⟨?_, ?_⟩); all_goals ((try apply hK); clear hK K))
    simp [go_sem]
   ·have hh2 : 0 <= s := by omega
    rw [if_pos ⟨hh2, rfl⟩]
    repeat' first | refine St.go ?_ | ((with_reducible refine cn ?_ ?_) <;> intro h <;> (try simp [hh, hh2] at h) <;> try omega) | (refine Ru.go ?_; intro K hK; simp [go_sem, encTab, encG, encI, encEd, hh, hh2]; (try simp (disch := omega) only [wx, z_i]); (first | apply hK | ((try refine .inl ?_); refine ⟨_, by (repeat' first | exact k1 | refine And.intro ?_ ?_ | simp [go_sem, encTab, encG, encI, encEd, hh, hh2]); first | done | omega, ?_⟩; first | apply hK | (refine ⟨by simp [go_sem, encTab, encG, encI, encEd, hh, hh2], ?_⟩; apply hK)) | refine ⟨ob, ?_⟩ | refine ⟨hK _ ?_, fun h => ?_⟩ | refine ⟨?_, ?_⟩); all_goals ((try apply hK); clear hK K))
    refine z_k (fun n e => ∃ k : Nat, k + n = t.new.edges.length /\ folE t.new.edges s ⟨r1, r2, r3⟩ x.again = folE (t.new.edges.drop k) s ⟨r1, r2, r3⟩ x.again /\ e = [(28, .sv (.one (.int .i64 k))), (27, .sv (.one (.int .i64 t.new.edges.length))), (26, .sv (.one (.sl (t.new.edges.map encEd)))), (7, .sv (.one (.bx (encI ⟨r1, r2, r3⟩)))), (5, .sv (.one (.bx (encEd x)))), (1, .sv (.one (.int .i64 s)))]) t.new.edges.length _ ⟨0, by simp, by simp, rfl⟩ (by simp [go_sem, encI, encEd]) ?_
    rintro n e ⟨k, hk, h0, rfl⟩
    by_cases hlt : k < t.new.edges.length
    ·obtain ⟨y, hy⟩ : ∃ y, t.new.edges[k] = y := ⟨_, rfl⟩
     have hq := folE_at (s := s) (a := ⟨r1, r2, r3⟩) (b := x.again) hlt
     rw [hy] at hq
     repeat' first | refine St.go ?_ | ((with_reducible refine cn ?_ ?_) <;> intro h <;> (try simp [hlt, hy] at h) <;> try omega) | (refine Ru.go ?_; intro K hK; simp [go_sem, hlt, hy, encEd, encI]; (try simp (disch := omega) only [wx, z_i]); (first | apply hK | refine ⟨ob, ?_⟩ | refine ⟨hK _ ?_, fun h => ?_⟩ | refine ⟨?_, ?_⟩); all_goals ((try apply hK); clear hK K))
     ·obtain ⟨⟨q1, q2, q3, q4⟩, q5⟩ := h
      rw [if_pos ⟨q1, by simp [actEq, q2, q3, q4], q5⟩] at hq
      simp [go_sem, h0, hq]
     ·rw [if_neg (fun q => by have q2 := q.2.1; simp only [actEq, Bool.and_eq_true, beq_iff_eq] at q2; exact h q.1 q2.1.1 q2.1.2 q2.2 q.2.2)] at hq
      refine z_j (n - 1) _ (by omega) ⟨k + 1, by omega, h0.trans hq, rfl⟩ ?_
      simp [go_sem, encI, encEd]
    ·have hd : t.new.edges.drop k = [] := List.drop_eq_nil_of_le (by omega)
     rw [hd] at h0
     repeat' first | refine St.go ?_ | ((with_reducible refine cn ?_ ?_) <;> intro h <;> (try simp [hlt] at h) <;> try omega) | (refine Ru.go ?_; intro K hK; simp [go_sem, hlt]; (try simp (disch := omega) only [wx, z_i]); (first | apply hK | refine ⟨ob, ?_⟩ | refine ⟨hK _ ?_, fun h => ?_⟩ | refine ⟨?_, ?_⟩); all_goals ((try apply hK); clear hK K))
     simp [go_sem, folE, h0]
theorem f53 (t : Tab) (s : Int) (x : Edg) (hl : t.new.edges.length <= 1000000) (h1 : 0 <= x.act.label) (h2 : x.act.label < t.labels.length) : Impl Tryz.prog 53 [.ag (encTab t), .one (.int .i64 s), .ag (encEd x)] (.one (.one (.int .i64 (folB t s x)))) := by
 have hlt : x.act.label.toNat < t.labels.length := by omega
 obtain ⟨v, hv⟩ : ∃ v, t.labels[x.act.label.toNat] = v := ⟨_, rfl⟩
 have hg : t.labels.getD x.act.label.toNat 0 = v := by rw [List.getD_eq_getElem?_getD, List.getElem?_eq_getElem hlt, hv]; rfl
 have hfo : folB t s x = if 0 <= s /\ 0 <= v then folE t.new.edges s ⟨x.act.from_, x.act.to, v⟩ x.again else -1 := by
  unfold folB renB
  rw [hg]
  by_cases h3 : 0 <= v <;> simp [h1, h2, h3]
 rw [hfo]
 clear hfo hg
 refine impl_w Tryz.func53 z53 Tryz.ntmps53 (by simp) ?_
 simp only [slotsOf]
 conv => arg 2; reduce
 by_cases hh : s < 0
 ·rw [if_neg (fun q => by omega)]
  repeat' first | refine St.go ?_ | ((with_reducible refine cn ?_ ?_) <;> intro h <;> (try simp [hh, h1, hlt, hv] at h) <;> try omega) | (refine Ru.go ?_; intro K hK; simp [go_sem, encTab, encG, encI, encN, encEd, hh, h1, hlt, hv]; (try simp (disch := omega) only [wx, z_i]); (first | apply hK | refine ⟨ob, ?_⟩ | refine ⟨hK _ ?_, fun h => ?_⟩ | refine ⟨?_, ?_⟩); all_goals ((try apply hK); clear hK K))
  simp [go_sem]
 ·have hh2 : 0 <= s := by omega
  by_cases h3 : v < 0
  ·rw [if_neg (fun q => by omega)]
   have q_ := aN hh <| aN h1 <| aN hlt <| aN hv <| h3
   repeat' first | refine St.go ?_ | ((with_reducible refine cn ?_ ?_) <;> intro h <;> (try simp [q_] at h) <;> try omega) | (refine Ru.go ?_; intro K hK; simp [go_sem, encTab, encG, encI, encN, encEd, q_]; (try simp (disch := omega) only [wx, z_i]); (first | apply hK | refine ⟨ob, ?_⟩ | refine ⟨hK _ ?_, fun h => ?_⟩ | refine ⟨?_, ?_⟩); all_goals ((try apply hK); clear hK K))
   all_goals try clear q_
   simp [go_sem]
  ·have h4 : 0 <= v := by omega
   rw [if_pos ⟨hh2, h4⟩]
   have q_ := aN hh <| aN h1 <| aN hlt <| aN hv <| h3
   repeat' first | refine St.go ?_ | ((with_reducible refine cn ?_ ?_) <;> intro h <;> (try simp [q_] at h) <;> try omega) | (refine Ru.go ?_; intro K hK; simp [go_sem, encTab, encG, encI, encN, encEd, q_]; (try simp (disch := omega) only [wx, z_i]); (first | apply hK | refine ⟨ob, ?_⟩ | refine ⟨hK _ ?_, fun h => ?_⟩ | refine ⟨?_, ?_⟩); all_goals ((try apply hK); clear hK K))
   all_goals try clear q_
   refine z_k (fun n e => ∃ k : Nat, k + n = t.new.edges.length /\ folE t.new.edges s ⟨x.act.from_, x.act.to, v⟩ x.again = folE (t.new.edges.drop k) s ⟨x.act.from_, x.act.to, v⟩ x.again /\ e = [(8, .sv (.one (.int .i64 k))), (7, .sv (.one (.bx (encI ⟨x.act.from_, x.act.to, v⟩)))), (5, .sv (.one (.bx (encEd x)))), (3, .sv (.one (.bx (encTab t)))), (1, .sv (.one (.int .i64 s)))]) t.new.edges.length _ ⟨0, by simp, by simp, rfl⟩ (by simp [go_sem, encI, encEd, encTab, encG]) ?_
   rintro n e ⟨k, hk, h0, rfl⟩
   by_cases hkl : k < t.new.edges.length
   ·obtain ⟨y, hy⟩ : ∃ y, t.new.edges[k] = y := ⟨_, rfl⟩
    have hq := folE_at (s := s) (a := ⟨x.act.from_, x.act.to, v⟩) (b := x.again) hkl
    rw [hy] at hq
    repeat' first | refine St.go ?_ | ((with_reducible refine cn ?_ ?_) <;> intro h <;> (try simp [hkl, hy] at h) <;> try omega) | (refine Ru.go ?_; intro K hK; simp [go_sem, hkl, hy, encTab, encG, encEd, encI]; (try simp (disch := omega) only [wx, z_i]); (first | apply hK | refine ⟨ob, ?_⟩ | refine ⟨hK _ ?_, fun h => ?_⟩ | refine ⟨?_, ?_⟩); all_goals ((try apply hK); clear hK K))
    ·obtain ⟨⟨q1, q2, q3, q4⟩, q5⟩ := h
     rw [if_pos ⟨q1, by simp [actEq, q2, q3, q4], q5⟩] at hq
     simp [go_sem, h0, hq]
    ·rw [if_neg (fun q => by have q2 := q.2.1; simp only [actEq, Bool.and_eq_true, beq_iff_eq] at q2; exact h q.1 q2.1.1 q2.1.2 q2.2 q.2.2)] at hq
     refine z_j (n - 1) _ (by omega) ⟨k + 1, by omega, h0.trans hq, rfl⟩ ?_
     simp [go_sem, encI, encEd, encTab, encG]
   ·have hd : t.new.edges.drop k = [] := List.drop_eq_nil_of_le (by omega)
    rw [hd] at h0
    repeat' first | refine St.go ?_ | ((with_reducible refine cn ?_ ?_) <;> intro h <;> (try simp [hkl] at h) <;> try omega) | (refine Ru.go ?_; intro K hK; simp [go_sem, hkl, encTab, encG]; (try simp (disch := omega) only [wx, z_i]); (first | apply hK | refine ⟨ob, ?_⟩ | refine ⟨hK _ ?_, fun h => ?_⟩ | refine ⟨?_, ?_⟩); all_goals ((try apply hK); clear hK K))
    simp [go_sem, folE, h0]
end Go.Av
