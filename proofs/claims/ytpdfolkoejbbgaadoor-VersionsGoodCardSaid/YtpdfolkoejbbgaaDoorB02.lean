/- Part of a proof by symbolic walks on plain data. -/
import Derived.Test.YtpdfolkoejbbgaaDoorB01
set_option linter.unusedVariables false
set_option linter.unusedSimpArgs false
set_option maxHeartbeats 4000000
namespace Go.Av
open Go Go.RowKit Go.Proofs
set_option maxRecDepth 8000
theorem allF_le {B : Nat} : ∀ (m : List Dcl), (∀ d ∈ m, d.fields.length ≤ B) → (allF m).length ≤ m.length * B
 | [], _ => by simp [allF]
 | d :: m, h => by
   have h1 := allF_le m fun x hx => h x (by simp [hx])
   have h2 := h d (by simp)
   simp only [allF, List.flatMap_cons, List.length_append, List.length_cons, Nat.succ_mul] at h1 ⊢
   omega
theorem allF_take_le {B k : Nat} {l : List Dcl} (hf : ∀ d ∈ l, d.fields.length ≤ B) : (allF (l.take k)).length ≤ k * B :=
 Nat.le_trans (allF_le _ fun d hd => hf d (List.mem_of_mem_take hd)) (Nat.mul_le_mul_right _ (List.length_take_le _ _))
theorem allF_succ {l : List Dcl} {k : Nat} (hlt : k < l.length) : allF (l.take (k + 1)) = allF (l.take k) ++ l[k].fields := by
 unfold allF
 rw [List.take_succ_eq_append_getElem hlt, List.flatMap_append]
 simp
theorem allF_split (l : List Dcl) (k : Nat) : allF l = allF (l.take k) ++ allF (l.drop k) := by
 unfold allF
 rw [← List.flatMap_append, List.take_append_drop]
theorem f11 (l : List Dcl) (hl : l.length ≤ 1000) (hf : ∀ d ∈ l, d.fields.length ≤ 100000) : Impl Tryd.prog 11 [.one (.sl (l.map encD))] (.one (.one (.int .i64 ((allF l).length : Nat)))) := by
 refine impl_z Tryd.func11 z11 Tryd.ntmps11 (by simp) ?_
 simp only [c11, slotsOf]
 repeat' first | refine St.go ?_ | ((with_reducible refine zY (t := ?_) ?hc (fun h => ?_) (fun h => ?_)); (case hc => rfl); all_goals (try simp [go_sem] at h); all_goals try omega) | (refine Ru.go ?_; intro K hK; simp [go_sem]; (try simp (disch := omega) only [zh, zi, eq_self, true_and]); (first | apply hK | refine ⟨by first | omega | (simp [zf, zg]; first | done | omega), ?_⟩ | refine ⟨hK _ ?_, fun h => ?_⟩ | refine ⟨?_, ?_⟩); all_goals ((try apply hK); clear hK K))
 refine zk (fun n e => ∃ k : Nat, k + n = l.length ∧ e = [(4, .sv (.one (.int .i64 k))), (3, .sv (.one (.int .i64 ((allF (l.take k)).length : Nat)))), (0, .sv (.one (.sl (l.map encD))))]) l.length _ ⟨0, by simp, rfl⟩ (by simp [go_sem, allF]) ?_
 rintro n e ⟨k, hk, rfl⟩
 by_cases hlt : k < l.length
 ·have hfk := hf l[k] (List.getElem_mem hlt)
  have hall := allF_take_le (k := k) hf
  repeat' first | refine St.go ?_ | ((with_reducible refine zY (t := ?_) ?hc (fun h => ?_) (fun h => ?_)); (case hc => rfl); all_goals (try simp [go_sem, hlt, encD] at h); all_goals try omega) | (refine Ru.go ?_; intro K hK; simp [go_sem, hlt, encD]; (try simp (disch := omega) only [zh, zi, eq_self, true_and]); (first | apply hK | refine ⟨by first | omega | (simp [zf, zg, hlt, encD]; first | done | omega), ?_⟩ | refine ⟨hK _ ?_, fun h => ?_⟩ | refine ⟨?_, ?_⟩); all_goals ((try apply hK); clear hK K))
  refine zj (n - 1) _ (by omega) ⟨k + 1, by omega, rfl⟩ ?_
  simp [go_sem, allF_succ hlt]
 ·have hkl : l.take k = l := List.take_of_length_le (by omega)
  repeat' first | refine St.go ?_ | ((with_reducible refine zY (t := ?_) ?hc (fun h => ?_) (fun h => ?_)); (case hc => rfl); all_goals (try simp [go_sem, hlt, hkl] at h); all_goals try omega) | (refine Ru.go ?_; intro K hK; simp [go_sem, hlt, hkl]; (try simp (disch := omega) only [zh, zi, eq_self, true_and]); (first | apply hK | refine ⟨by first | omega | (simp [zf, zg, hlt, hkl]; first | done | omega), ?_⟩ | refine ⟨hK _ ?_, fun h => ?_⟩ | refine ⟨?_, ?_⟩); all_goals ((try apply hK); clear hK K))
  simp [go_sem]
end Go.Av
namespace Go.Av
open Go Go.RowKit Go.Proofs
set_option maxRecDepth 8000
theorem f37 (l : List Dcl) (g : FuncId) (caps : List DV) (p : Dcl → Bool) (hl : l.length ≤ 1000000) (hg : ∀ x ∈ l, Impl Tryd.prog g (.ag (encD x) :: caps.map .one) (.one (.one (.bool (p x))))) :
  Impl Tryd.prog 37 [.one (.sl (l.map encD)), .one (.fn g caps)] (.one (.one (.int .i64 (firstB p l)))) := by
 refine impl_z Tryd.func37 z37 Tryd.ntmps37 (by simp) ?_
 simp only [c37, slotsOf]
 repeat' first | refine St.go ?_ | ((with_reducible refine zY (t := ?_) ?hc (fun h => ?_) (fun h => ?_)); (case hc => rfl); all_goals (try simp [go_sem] at h); all_goals try omega) | (refine Ru.go ?_; intro K hK; simp [go_sem]; (try simp (disch := omega) only [zh, zi, eq_self, true_and]); (first | apply hK | refine ⟨by first | omega | (simp [zf, zg]; first | done | omega), ?_⟩ | refine ⟨hK _ ?_, fun h => ?_⟩ | refine ⟨?_, ?_⟩); all_goals ((try apply hK); clear hK K))
 refine zk (fun n e => ∃ k : Nat, k + n = l.length ∧ (l.take k).any p = false ∧ e = [(8, .sv (.one (.int .i64 k))), (7, .sv (.one (.int .i64 l.length))), (1, .sv (.one (.fn g caps))), (0, .sv (.one (.sl (l.map encD))))]) l.length _ ⟨0, by simp, by simp, rfl⟩ (by simp [go_sem]) ?_
 rintro n e ⟨k, hk, h0, rfl⟩
 by_cases hlt : k < l.length
 ·have hgs := hg l[k] (List.getElem_mem hlt)
  simp only [encD] at hgs
  cases hx : p l[k] with
  | true =>
    have hf := firstB_at hlt h0 hx
    rw [hx] at hgs
    repeat' first | refine St.go ?_ | ((with_reducible refine zY (t := ?_) ?hc (fun h => ?_) (fun h => ?_)); (case hc => rfl); all_goals (try simp [go_sem, hlt, encD] at h); all_goals try omega) | (refine Ru.go ?_; intro K hK; simp [go_sem, hlt, encD]; (try simp (disch := omega) only [zh, zi, eq_self, true_and]); (first | apply hK | ((try refine .inl ?_); refine ⟨_, by (try intro hc); (repeat' first | exact hgs | exact hc | refine And.intro ?_ ?_ | simp [go_sem, hlt, encD]); first | done | omega, ?_⟩; first | apply hK | (refine ⟨by simp [go_sem, hlt, encD], ?_⟩; first | apply hK | refine ⟨by simp [go_sem, hlt, encD], hK _ _ ?_⟩)) | refine ⟨by first | omega | (simp [zf, zg, hlt, encD]; first | done | omega), ?_⟩ | refine ⟨hK _ ?_, fun h => ?_⟩ | refine ⟨?_, ?_⟩); all_goals ((try apply hK); clear hK K))
    simp [go_sem, hf]
  | false =>
    rw [hx] at hgs
    repeat' first | refine St.go ?_ | ((with_reducible refine zY (t := ?_) ?hc (fun h => ?_) (fun h => ?_)); (case hc => rfl); all_goals (try simp [go_sem, hlt, encD] at h); all_goals try omega) | (refine Ru.go ?_; intro K hK; simp [go_sem, hlt, encD]; (try simp (disch := omega) only [zh, zi, eq_self, true_and]); (first | apply hK | ((try refine .inl ?_); refine ⟨_, by (try intro hc); (repeat' first | exact hgs | exact hc | refine And.intro ?_ ?_ | simp [go_sem, hlt, encD]); first | done | omega, ?_⟩; first | apply hK | (refine ⟨by simp [go_sem, hlt, encD], ?_⟩; first | apply hK | refine ⟨by simp [go_sem, hlt, encD], hK _ _ ?_⟩)) | refine ⟨by first | omega | (simp [zf, zg, hlt, encD]; first | done | omega), ?_⟩ | refine ⟨hK _ ?_, fun h => ?_⟩ | refine ⟨?_, ?_⟩); all_goals ((try apply hK); clear hK K))
    refine zj (n - 1) _ (by omega) ⟨k + 1, by omega, ?_, rfl⟩ ?_
    ·rw [any_succ hlt, h0, hx]; rfl
    ·simp [go_sem]
 ·have hkl : l.take k = l := List.take_of_length_le (by omega)
  rw [hkl] at h0
  have hf := firstB_none h0
  repeat' first | refine St.go ?_ | ((with_reducible refine zY (t := ?_) ?hc (fun h => ?_) (fun h => ?_)); (case hc => rfl); all_goals (try simp [go_sem, hlt] at h); all_goals try omega) | (refine Ru.go ?_; intro K hK; simp [go_sem, hlt]; (try simp (disch := omega) only [zh, zi, eq_self, true_and]); (first | apply hK | refine ⟨by first | omega | (simp [zf, zg, hlt]; first | done | omega), ?_⟩ | refine ⟨hK _ ?_, fun h => ?_⟩ | refine ⟨?_, ?_⟩); all_goals ((try apply hK); clear hK K))
  simp [go_sem, hf]
theorem f69 (l : List Dcl) (g : FuncId) (caps : List DV) (p : Dcl → Bool) (hl : l.length ≤ 1000000) (hg : ∀ x ∈ l, Impl Tryd.prog g (.ag (encD x) :: caps.map .one) (.one (.one (.bool (p x))))) :
  Impl Tryd.prog 69 [.one (.sl (l.map encD)), .one (.fn g caps)] (.one (.one (.bool (l.any p)))) := by
 refine impl_z Tryd.func69 z69 Tryd.ntmps69 (by simp) ?_
 simp only [c69, slotsOf]
 have hf := firstB_any p l
 repeat' first | refine St.go ?_ | (refine Ru.go ?_; intro K hK; simp [go_sem]; (first | apply hK | ((try refine .inl ?_); refine ⟨_, by (try intro hc); (repeat' first | exact f37 l g caps p hl hg | exact hc | refine And.intro ?_ ?_ | simp [go_sem]); first | done | omega, ?_⟩; first | apply hK | (refine ⟨by simp [go_sem], ?_⟩; first | apply hK | refine ⟨by simp [go_sem], hK _ _ ?_⟩)) | refine ⟨by first | omega | (simp [zf, zg]; first | done | omega), ?_⟩ | refine ⟨hK _ ?_, fun h => ?_⟩ | refine ⟨?_, ?_⟩); all_goals ((try apply hK); clear hK K))
 simp [go_sem, hf]
theorem f70 (x d : Dcl) : Impl Tryd.prog 70 [.ag (encD x), .one (.rf (encD d))] (.one (.one (.bool (x.name == d.name)))) := by
 refine impl_z Tryd.func70 z70 Tryd.ntmps70 (by simp) ?_
 simp only [c70, slotsOf]
 repeat' first | refine St.go ?_ | (refine Ru.go ?_; intro K hK; simp [go_sem, encD]; (first | apply hK | refine ⟨by first | omega | (simp [zf, zg, encD]; first | done | omega), ?_⟩ | refine ⟨hK _ ?_, fun h => ?_⟩ | refine ⟨?_, ?_⟩); all_goals ((try apply hK); clear hK K))
 simp [go_sem]
theorem f82 (l : List Fld) (g : FuncId) (caps : List DV) (p : Fld → Bool) (hl : l.length ≤ 1000000) (hg : ∀ x ∈ l, Impl Tryd.prog g (.ag (encF x) :: caps.map .one) (.one (.one (.bool (p x))))) :
  Impl Tryd.prog 82 [.one (.sl (l.map encF)), .one (.fn g caps)] (.one (.one (.int .i64 (firstB p l)))) := by
 refine impl_z Tryd.func82 z82 Tryd.ntmps82 (by simp) ?_
 simp only [c82, slotsOf]
 repeat' first | refine St.go ?_ | ((with_reducible refine zY (t := ?_) ?hc (fun h => ?_) (fun h => ?_)); (case hc => rfl); all_goals (try simp [go_sem] at h); all_goals try omega) | (refine Ru.go ?_; intro K hK; simp [go_sem]; (try simp (disch := omega) only [zh, zi, eq_self, true_and]); (first | apply hK | refine ⟨by first | omega | (simp [zf, zg]; first | done | omega), ?_⟩ | refine ⟨hK _ ?_, fun h => ?_⟩ | refine ⟨?_, ?_⟩); all_goals ((try apply hK); clear hK K))
 refine zk (fun n e => ∃ k : Nat, k + n = l.length ∧ (l.take k).any p = false ∧ e = [(8, .sv (.one (.int .i64 k))), (7, .sv (.one (.int .i64 l.length))), (1, .sv (.one (.fn g caps))), (0, .sv (.one (.sl (l.map encF))))]) l.length _ ⟨0, by simp, by simp, rfl⟩ (by simp [go_sem]) ?_
 rintro n e ⟨k, hk, h0, rfl⟩
 by_cases hlt : k < l.length
 ·have hgs := hg l[k] (List.getElem_mem hlt)
  simp only [encF] at hgs
  cases hx : p l[k] with
  | true =>
    have hf := firstB_at hlt h0 hx
    rw [hx] at hgs
    repeat' first | refine St.go ?_ | ((with_reducible refine zY (t := ?_) ?hc (fun h => ?_) (fun h => ?_)); (case hc => rfl); all_goals (try simp [go_sem, hlt, encF] at h); all_goals try omega) | (refine Ru.go ?_; intro K hK; simp [go_sem, hlt, encF]; (try simp (disch := omega) only [zh, zi, eq_self, true_and]); (first | apply hK | ((try refine .inl ?_); refine ⟨_, by (try intro hc); (repeat' first | exact hgs | exact hc | refine And.intro ?_ ?_ | simp [go_sem, hlt, encF]); first | done | omega, ?_⟩; first | apply hK | (refine ⟨by simp [go_sem, hlt, encF], ?_⟩; first | apply hK | refine ⟨by simp [go_sem, hlt, encF], hK _ _ ?_⟩)) | refine ⟨by first | omega | (simp [zf, zg, hlt, encF]; first | done | omega), ?_⟩ | refine ⟨hK _ ?_, fun h => ?_⟩ | refine ⟨?_, ?_⟩); all_goals ((try apply hK); clear hK K))
    simp [go_sem, hf]
  | false =>
    rw [hx] at hgs
    repeat' first | refine St.go ?_ | ((with_reducible refine zY (t := ?_) ?hc (fun h => ?_) (fun h => ?_)); (case hc => rfl); all_goals (try simp [go_sem, hlt, encF] at h); all_goals try omega) | (refine Ru.go ?_; intro K hK; simp [go_sem, hlt, encF]; (try simp (disch := omega) only [zh, zi, eq_self, true_and]); (first | apply hK | ((try refine .inl ?_); refine ⟨_, by (try intro hc); (repeat' first | exact hgs | exact hc | refine And.intro ?_ ?_ | simp [go_sem, hlt, encF]); first | done | omega, ?_⟩; first | apply hK | (refine ⟨by simp [go_sem, hlt, encF], ?_⟩; first | apply hK | refine ⟨by simp [go_sem, hlt, encF], hK _ _ ?_⟩)) | refine ⟨by first | omega | (simp [zf, zg, hlt, encF]; first | done | omega), ?_⟩ | refine ⟨hK _ ?_, fun h => ?_⟩ | refine ⟨?_, ?_⟩); all_goals ((try apply hK); clear hK K))
    refine zj (n - 1) _ (by omega) ⟨k + 1, by omega, ?_, rfl⟩ ?_
    ·rw [any_succ hlt, h0, hx]; rfl
    ·simp [go_sem]
 ·have hkl : l.take k = l := List.take_of_length_le (by omega)
  rw [hkl] at h0
  have hf := firstB_none h0
  repeat' first | refine St.go ?_ | ((with_reducible refine zY (t := ?_) ?hc (fun h => ?_) (fun h => ?_)); (case hc => rfl); all_goals (try simp [go_sem, hlt] at h); all_goals try omega) | (refine Ru.go ?_; intro K hK; simp [go_sem, hlt]; (try simp (disch := omega) only [zh, zi, eq_self, true_and]); (first | apply hK | refine ⟨by first | omega | (simp [zf, zg, hlt]; first | done | omega), ?_⟩ | refine ⟨hK _ ?_, fun h => ?_⟩ | refine ⟨?_, ?_⟩); all_goals ((try apply hK); clear hK K))
  simp [go_sem, hf]
theorem f72 (l : List Fld) (g : FuncId) (caps : List DV) (p : Fld → Bool) (hl : l.length ≤ 1000000) (hg : ∀ x ∈ l, Impl Tryd.prog g (.ag (encF x) :: caps.map .one) (.one (.one (.bool (p x))))) :
  Impl Tryd.prog 72 [.one (.sl (l.map encF)), .one (.fn g caps)] (.one (.one (.bool (l.any p)))) := by
 refine impl_z Tryd.func72 z72 Tryd.ntmps72 (by simp) ?_
 simp only [c72, slotsOf]
 have hf := firstB_any p l
 repeat' first | refine St.go ?_ | (refine Ru.go ?_; intro K hK; simp [go_sem]; (first | apply hK | ((try refine .inl ?_); refine ⟨_, by (try intro hc); (repeat' first | exact f82 l g caps p hl hg | exact hc | refine And.intro ?_ ?_ | simp [go_sem]); first | done | omega, ?_⟩; first | apply hK | (refine ⟨by simp [go_sem], ?_⟩; first | apply hK | refine ⟨by simp [go_sem], hK _ _ ?_⟩)) | refine ⟨by first | omega | (simp [zf, zg]; first | done | omega), ?_⟩ | refine ⟨hK _ ?_, fun h => ?_⟩ | refine ⟨?_, ?_⟩); all_goals ((try apply hK); clear hK K))
 simp [go_sem, hf]
theorem f73 (x d : Fld) : Impl Tryd.prog 73 [.ag (encF x), .one (.rf (encF d))] (.one (.one (.bool (x.name == d.name)))) := by
 refine impl_z Tryd.func73 z73 Tryd.ntmps73 (by simp) ?_
 simp only [c73, slotsOf]
 repeat' first | refine St.go ?_ | (refine Ru.go ?_; intro K hK; simp [go_sem, encF]; (first | apply hK | refine ⟨by first | omega | (simp [zf, zg, encF]; first | done | omega), ?_⟩ | refine ⟨hK _ ?_, fun h => ?_⟩ | refine ⟨?_, ?_⟩); all_goals ((try apply hK); clear hK K))
 simp [go_sem]
end Go.Av
namespace Go.Av
open Go Go.RowKit Go.Proofs
set_option maxRecDepth 8000
theorem range_succ_all (p : Nat → Bool) (k : Nat) : (List.range (k + 1)).all p = ((List.range k).all p && p k) := by simp [List.range_succ]
theorem range_all_no {p : Nat → Bool} {n k : Nat} (h : k < n) (hb : p k = false) : (List.range n).all p = false := by
 rw [List.all_eq_false]
 exact ⟨k, by simp [h], by simp [hb]⟩
theorem frz_encF (x : Fld) : frzL (encF x) = encF x := by simp [encF, frzL, DV.frz]
def okFieldAt (fs : List Fld) (k : Nat) : Bool := match fs[k]? with
 | some f => isWord f.name && goodSort f && !(fs.take k).any (fun x => x.name == f.name)
 | none => true
def okFields (fs : List Fld) : Bool := (List.range fs.length).all (okFieldAt fs)
def okDeclAt (l : List Dcl) (i : Nat) : Bool := match l[i]? with
 | some d => isPath d.name && decide (d.fields.length ≤ 4) && decide (d.first = ((allF (l.take i)).length : Int)) && !(l.take i).any (fun x => x.name == d.name) && okFields d.fields && okGuard (allF l) d
 | none => true
def validD (l : List Dcl) : Bool := decide (l.length ≤ 40) && decide ((allF l).length ≤ 24) && (List.range l.length).all (okDeclAt l)
theorem okFieldAt_get {fs : List Fld} {k : Nat} (h : k < fs.length) : okFieldAt fs k = (isWord fs[k].name && goodSort fs[k] && !(fs.take k).any (fun x => x.name == fs[k].name)) := by
 unfold okFieldAt
 rw [List.getElem?_eq_getElem h]
theorem okDeclAt_get {l : List Dcl} {i : Nat} (h : i < l.length) : okDeclAt l i = (isPath l[i].name && decide (l[i].fields.length ≤ 4) && decide (l[i].first = ((allF (l.take i)).length : Int)) && !(l.take i).any (fun x => x.name == l[i].name) && okFields l[i].fields && okGuard (allF l) l[i]) := by
 unfold okDeclAt
 rw [List.getElem?_eq_getElem h]
set_option maxHeartbeats 8000000 in
theorem f60 (l : List Dcl) (hl : l.length ≤ 1000) (hf : ∀ d ∈ l, d.fields.length ≤ 100000) : Impl Tryd.prog 60 [.one (.sl (l.map encD))] (.one (.one (.bool (validD l)))) := by
 refine impl_z Tryd.func60 z60 Tryd.ntmps60 (by simp) ?_
 simp only [c60, slotsOf]
 by_cases h40 : l.length ≤ 40
 ·have h40' : ¬ (40 : Int) < (l.length : Int) := by omega
  have f67s := f67 l hl hf
  obtain ⟨all, hA⟩ : ∃ all, all = allF l := ⟨_, rfl⟩
  rw [← hA] at f67s
  by_cases h24 : all.length ≤ 24
  ·have h24' : ¬ (24 : Int) < (all.length : Int) := by omega
   repeat' first | refine St.go ?_ | ((with_reducible refine zY (t := ?_) ?hc (fun h => ?_) (fun h => ?_)); (case hc => rfl); all_goals (try simp [go_sem, h40', h24'] at h); all_goals try omega) | (refine Ru.go ?_; intro K hK; simp [go_sem, h40', h24']; (try simp (disch := omega) only [zh, zi, eq_self, true_and]); (first | apply hK | ((try refine .inl ?_); refine ⟨_, by (try intro hc); (repeat' first | exact f67s | exact hc | refine And.intro ?_ ?_ | simp [go_sem, h40', h24']); first | done | omega, ?_⟩; first | apply hK | (refine ⟨by simp [go_sem, h40', h24'], ?_⟩; first | apply hK | refine ⟨by simp [go_sem, h40', h24'], hK _ _ ?_⟩)) | refine ⟨.one (.one (.bool false)), by simp [go_sem, h40', h24'], hK _ _ ?_⟩ | refine ⟨by first | omega | (simp [zf, zg, h40', h24']; first | done | omega), ?_⟩ | refine ⟨hK _ ?_, fun h => ?_⟩ | refine ⟨?_, ?_⟩); all_goals ((try apply hK); clear hK K))
   refine zk (fun n e => ∃ i : Nat, i + n = l.length ∧ (List.range i).all (okDeclAt l) = true ∧ e = [(19, .sv (.one (.int .i64 i))), (18, .sv (.one (.int .i64 l.length))), (17, .sv (.one (.sl (l.map encD)))), (4, .sv (.one (.int .i64 ((allF (l.take i)).length : Nat)))), (3, .sv (.one (.ow 4 (all.map encF)))), (0, .sv (.one (.sl (l.map encD))))]) l.length _ ⟨0, by simp, by simp, rfl⟩ (by simp [go_sem, allF]) ?_
   rintro n e ⟨i, hi, hall, rfl⟩
   by_cases hlt : i < l.length
   ·have hfi := hf l[i] (List.getElem_mem hlt)
    have hok := okDeclAt_get hlt
    have hbad : okDeclAt l i = false → validD l = false := fun h => by simp [validD, range_all_no hlt h]
    have hat := allF_take_le (k := i) hf
    have hsc := congrArg List.length (allF_succ hlt)
    rw [List.length_append] at hsc
    obtain ⟨d, hd⟩ : ∃ d, l[i] = d := ⟨_, rfl⟩
    rw [hd] at hfi hok hsc
    have f68s := f68 d.name
    have hti : (l.take i).length ≤ 1000000 := Nat.le_trans (List.length_take_le _ _) (by omega)
    have f69s := f69 (l.take i) 70 [.rf (encD d)] (fun x => x.name == d.name) hti (fun x _ => f70 x d)
    rw [List.map_take] at f69s
    cases hp : isPath d.name with
    | false =>
      have hv := hbad (by rw [hok, hp]; rfl)
      rw [hp] at f68s
      repeat' first | refine St.go ?_ | ((with_reducible refine zY (t := ?_) ?hc (fun h => ?_) (fun h => ?_)); (case hc => rfl); all_goals (try simp [go_sem, hlt, hd, encD] at h); all_goals try omega) | (refine Ru.go ?_; intro K hK; simp [go_sem, hlt, hd, encD]; (try simp (disch := omega) only [zh, zi, eq_self, true_and]); (first | apply hK | ((try refine .inl ?_); refine ⟨_, by (try intro hc); (repeat' first | exact f68s | exact hc | refine And.intro ?_ ?_ | simp [go_sem, hlt, hd, encD]); first | done | omega, ?_⟩; first | apply hK | (refine ⟨by simp [go_sem, hlt, hd, encD], ?_⟩; first | apply hK | refine ⟨by simp [go_sem, hlt, hd, encD], hK _ _ ?_⟩)) | refine ⟨.one (.one (.bool false)), by simp [go_sem, hlt, hd, encD], hK _ _ ?_⟩ | refine ⟨by first | omega | (simp [zf, zg, hlt, hd, encD]; first | done | omega), ?_⟩ | refine ⟨hK _ ?_, fun h => ?_⟩ | refine ⟨?_, ?_⟩); all_goals ((try apply hK); clear hK K))
      simp [go_sem, hv]
    | true =>
      rw [hp] at f68s
      by_cases h4 : d.fields.length ≤ 4
      ·have h4' : ¬ (4 : Int) < (d.fields.length : Int) := by omega
       by_cases hfst : d.first = ((allF (l.take i)).length : Int)
       ·have hfst' : (d.first != ((allF (l.take i)).length : Int)) = false := by simp [hfst]
        cases hany : (l.take i).any (fun x => x.name == d.name) with
        | true =>
          have hv := hbad (by rw [hok, hany]; simp)
          rw [hany] at f69s
          repeat' first | refine St.go ?_ | ((with_reducible refine zY (t := ?_) ?hc (fun h => ?_) (fun h => ?_)); (case hc => rfl); all_goals (try simp [go_sem, hlt, hd, encD, h4', hfst'] at h); all_goals try omega) | (refine Ru.go ?_; intro K hK; simp [go_sem, hlt, hd, encD, h4', hfst']; (try simp (disch := omega) only [zh, zi, eq_self, true_and]); (first | apply hK | ((try refine .inl ?_); refine ⟨_, by (try intro hc); (repeat' first | exact f68s | exact f69s | exact hc | refine And.intro ?_ ?_ | simp [go_sem, hlt, hd, encD, h4', hfst']); first | done | omega, ?_⟩; first | apply hK | (refine ⟨by simp [go_sem, hlt, hd, encD, h4', hfst'], ?_⟩; first | apply hK | refine ⟨by simp [go_sem, hlt, hd, encD, h4', hfst'], hK _ _ ?_⟩)) | refine ⟨.one (.one (.bool false)), by simp [go_sem, hlt, hd, encD, h4', hfst'], hK _ _ ?_⟩ | refine ⟨by first | omega | (simp [zf, zg, hlt, hd, encD, h4', hfst']; first | done | omega), ?_⟩ | refine ⟨hK _ ?_, fun h => ?_⟩ | refine ⟨?_, ?_⟩); all_goals ((try apply hK); clear hK K))
          simp [go_sem, hv]
        | false =>
          rw [hany] at f69s
          repeat' first | refine St.go ?_ | ((with_reducible refine zY (t := ?_) ?hc (fun h => ?_) (fun h => ?_)); (case hc => rfl); all_goals (try simp [go_sem, hlt, hd, encD, h4', hfst'] at h); all_goals try omega) | (refine Ru.go ?_; intro K hK; simp [go_sem, hlt, hd, encD, h4', hfst']; (try simp (disch := omega) only [zh, zi, eq_self, true_and]); (first | apply hK | ((try refine .inl ?_); refine ⟨_, by (try intro hc); (repeat' first | exact f68s | exact f69s | exact hc | refine And.intro ?_ ?_ | simp [go_sem, hlt, hd, encD, h4', hfst']); first | done | omega, ?_⟩; first | apply hK | (refine ⟨by simp [go_sem, hlt, hd, encD, h4', hfst'], ?_⟩; first | apply hK | refine ⟨by simp [go_sem, hlt, hd, encD, h4', hfst'], hK _ _ ?_⟩)) | refine ⟨.one (.one (.bool false)), by simp [go_sem, hlt, hd, encD, h4', hfst'], hK _ _ ?_⟩ | refine ⟨by first | omega | (simp [zf, zg, hlt, hd, encD, h4', hfst']; first | done | omega), ?_⟩ | refine ⟨hK _ ?_, fun h => ?_⟩ | refine ⟨?_, ?_⟩); all_goals ((try apply hK); clear hK K))
          refine zk (fun q e => ∃ k : Nat, k + q = d.fields.length ∧ (List.range k).all (okFieldAt d.fields) = true ∧ e = [(55, .sv (.one (.int .i64 k))), (54, .sv (.one (.int .i64 d.fields.length))), (53, .sv (.one (.sl (d.fields.map encF)))), (6, .sv (.one (.bx (encD d)))), (19, .sv (.one (.int .i64 i))), (18, .sv (.one (.int .i64 l.length))), (17, .sv (.one (.sl (l.map encD)))), (4, .sv (.one (.int .i64 ((allF (l.take (i + 1))).length : Nat)))), (3, .sv (.one (.ow 4 (all.map encF)))), (0, .sv (.one (.sl (l.map encD))))]) d.fields.length _ ⟨0, by simp, by simp, rfl⟩ (by simp [go_sem, encD, hsc]) ?_
          rintro q e ⟨k, hk, hfa, rfl⟩
          by_cases hkl : k < d.fields.length
          ·have hfo := okFieldAt_get hkl
           have hfbad : okFieldAt d.fields k = false → validD l = false := fun h => hbad (by rw [hok]; simp [okFields, range_all_no hkl h])
           obtain ⟨f, hfe⟩ : ∃ f, d.fields[k] = f := ⟨_, rfl⟩
           rw [hfe] at hfo
           have f51s := f51 f.name
           have f71s := f71 f.kind f.lo f.hi f.name
           have hge : goodSort ⟨f.name, f.kind, f.lo, f.hi⟩ = goodSort f := rfl
           rw [hge] at f71s
           have htk : (d.fields.take k).length ≤ 1000000 := Nat.le_trans (List.length_take_le _ _) (by omega)
           have f72s := f72 (d.fields.take k) 73 [.rf (encF f)] (fun x => x.name == f.name) htk (fun x _ => f73 x f)
           rw [List.map_take] at f72s
           cases hw : isWord f.name with
           | false =>
             have hv := hfbad (by rw [hfo, hw]; rfl)
             rw [hw] at f51s
             repeat' first | refine St.go ?_ | ((with_reducible refine zY (t := ?_) ?hc (fun h => ?_) (fun h => ?_)); (case hc => rfl); all_goals (try simp [go_sem, hkl, hfe, encD, encF] at h); all_goals try omega) | (refine Ru.go ?_; intro K hK; simp [go_sem, hkl, hfe, encD, encF]; (try simp (disch := omega) only [zh, zi, eq_self, true_and]); (first | apply hK | ((try refine .inl ?_); refine ⟨_, by (try intro hc); (repeat' first | exact f51s | exact hc | refine And.intro ?_ ?_ | simp [go_sem, hkl, hfe, encD, encF]); first | done | omega, ?_⟩; first | apply hK | (refine ⟨by simp [go_sem, hkl, hfe, encD, encF], ?_⟩; first | apply hK | refine ⟨by simp [go_sem, hkl, hfe, encD, encF], hK _ _ ?_⟩)) | refine ⟨.one (.one (.bool false)), by simp [go_sem, hkl, hfe, encD, encF], hK _ _ ?_⟩ | refine ⟨by first | omega | (simp [zf, zg, hkl, hfe, encD, encF]; first | done | omega), ?_⟩ | refine ⟨hK _ ?_, fun h => ?_⟩ | refine ⟨?_, ?_⟩); all_goals ((try apply hK); clear hK K))
             simp [go_sem, hv]
           | true =>
             rw [hw] at f51s
             cases hgs : goodSort f with
             | false =>
               have hv := hfbad (by rw [hfo, hgs]; simp)
               rw [hgs] at f71s
               repeat' first | refine St.go ?_ | ((with_reducible refine zY (t := ?_) ?hc (fun h => ?_) (fun h => ?_)); (case hc => rfl); all_goals (try simp [go_sem, hkl, hfe, encD, encF] at h); all_goals try omega) | (refine Ru.go ?_; intro K hK; simp [go_sem, hkl, hfe, encD, encF]; (try simp (disch := omega) only [zh, zi, eq_self, true_and]); (first | apply hK | ((try refine .inl ?_); refine ⟨_, by (try intro hc); (repeat' first | exact f51s | exact f71s | exact hc | refine And.intro ?_ ?_ | simp [go_sem, hkl, hfe, encD, encF]); first | done | omega, ?_⟩; first | apply hK | (refine ⟨by simp [go_sem, hkl, hfe, encD, encF], ?_⟩; first | apply hK | refine ⟨by simp [go_sem, hkl, hfe, encD, encF], hK _ _ ?_⟩)) | refine ⟨.one (.one (.bool false)), by simp [go_sem, hkl, hfe, encD, encF], hK _ _ ?_⟩ | refine ⟨by first | omega | (simp [zf, zg, hkl, hfe, encD, encF]; first | done | omega), ?_⟩ | refine ⟨hK _ ?_, fun h => ?_⟩ | refine ⟨?_, ?_⟩); all_goals ((try apply hK); clear hK K))
               simp [go_sem, hv]
             | true =>
               rw [hgs] at f71s
               cases hfy : (d.fields.take k).any (fun x => x.name == f.name) with
               | true =>
                 have hv := hfbad (by rw [hfo, hfy]; simp)
                 rw [hfy] at f72s
                 repeat' first | refine St.go ?_ | ((with_reducible refine zY (t := ?_) ?hc (fun h => ?_) (fun h => ?_)); (case hc => rfl); all_goals (try simp [go_sem, hkl, hfe, encD, encF] at h); all_goals try omega) | (refine Ru.go ?_; intro K hK; simp [go_sem, hkl, hfe, encD, encF]; (try simp (disch := omega) only [zh, zi, eq_self, true_and]); (first | apply hK | ((try refine .inl ?_); refine ⟨_, by (try intro hc); (repeat' first | exact f51s | exact f71s | exact f72s | exact hc | refine And.intro ?_ ?_ | simp [go_sem, hkl, hfe, encD, encF]); first | done | omega, ?_⟩; first | apply hK | (refine ⟨by simp [go_sem, hkl, hfe, encD, encF], ?_⟩; first | apply hK | refine ⟨by simp [go_sem, hkl, hfe, encD, encF], hK _ _ ?_⟩)) | refine ⟨.one (.one (.bool false)), by simp [go_sem, hkl, hfe, encD, encF], hK _ _ ?_⟩ | refine ⟨by first | omega | (simp [zf, zg, hkl, hfe, encD, encF]; first | done | omega), ?_⟩ | refine ⟨hK _ ?_, fun h => ?_⟩ | refine ⟨?_, ?_⟩); all_goals ((try apply hK); clear hK K))
                 simp [go_sem, hv]
               | false =>
                 have hfo' : okFieldAt d.fields k = true := by rw [hfo, hw, hgs, hfy]; rfl
                 rw [hfy] at f72s
                 repeat' first | refine St.go ?_ | ((with_reducible refine zY (t := ?_) ?hc (fun h => ?_) (fun h => ?_)); (case hc => rfl); all_goals (try simp [go_sem, hkl, hfe, encD, encF] at h); all_goals try omega) | (refine Ru.go ?_; intro K hK; simp [go_sem, hkl, hfe, encD, encF]; (try simp (disch := omega) only [zh, zi, eq_self, true_and]); (first | apply hK | ((try refine .inl ?_); refine ⟨_, by (try intro hc); (repeat' first | exact f51s | exact f71s | exact f72s | exact hc | refine And.intro ?_ ?_ | simp [go_sem, hkl, hfe, encD, encF]); first | done | omega, ?_⟩; first | apply hK | (refine ⟨by simp [go_sem, hkl, hfe, encD, encF], ?_⟩; first | apply hK | refine ⟨by simp [go_sem, hkl, hfe, encD, encF], hK _ _ ?_⟩)) | refine ⟨.one (.one (.bool false)), by simp [go_sem, hkl, hfe, encD, encF], hK _ _ ?_⟩ | refine ⟨by first | omega | (simp [zf, zg, hkl, hfe, encD, encF]; first | done | omega), ?_⟩ | refine ⟨hK _ ?_, fun h => ?_⟩ | refine ⟨?_, ?_⟩); all_goals ((try apply hK); clear hK K))
                 refine zj (q - 1) _ (by omega) ⟨k + 1, by omega, ?_, rfl⟩ ?_
                 ·rw [range_succ_all, hfa, hfo']; rfl
                 ·simp [go_sem, encD]
          ·have hke : k = d.fields.length := by omega
           rw [hke] at hfa
           have hfs : okFields d.fields = true := hfa
           have f74s := f74 all d (by omega)
           cases hgd : okGuard all d with
           | false =>
             have hv := hbad (by rw [hok, ← hA, hgd]; simp)
             rw [hgd] at f74s
             repeat' first | refine St.go ?_ | ((with_reducible refine zY (t := ?_) ?hc (fun h => ?_) (fun h => ?_)); (case hc => rfl); all_goals (try simp [go_sem, hkl, encD, frz_encF] at h); all_goals try omega) | (refine Ru.go ?_; intro K hK; simp [go_sem, hkl, encD, frz_encF]; (try simp (disch := omega) only [zh, zi, eq_self, true_and]); (first | apply hK | ((try refine .inl ?_); refine ⟨_, by (try intro hc); (repeat' first | exact f74s | exact hc | refine And.intro ?_ ?_ | simp [go_sem, hkl, encD, frz_encF]); first | done | omega, ?_⟩; first | apply hK | (refine ⟨by simp [go_sem, hkl, encD, frz_encF], ?_⟩; first | apply hK | refine ⟨by simp [go_sem, hkl, encD, frz_encF], hK _ _ ?_⟩)) | refine ⟨.one (.one (.bool false)), by simp [go_sem, hkl, encD, frz_encF], hK _ _ ?_⟩ | refine ⟨by first | omega | (simp [zf, zg, hkl, encD, frz_encF]; first | done | omega), ?_⟩ | refine ⟨hK _ ?_, fun h => ?_⟩ | refine ⟨?_, ?_⟩); all_goals ((try apply hK); clear hK K))
             simp [go_sem, hv]
           | true =>
             have hoi : okDeclAt l i = true := by rw [hok, ← hA, hgd, hp, hany, hfs]; simp [h4, hfst]
             rw [hgd] at f74s
             repeat' first | refine St.go ?_ | ((with_reducible refine zY (t := ?_) ?hc (fun h => ?_) (fun h => ?_)); (case hc => rfl); all_goals (try simp [go_sem, hkl, encD, frz_encF] at h); all_goals try omega) | (refine Ru.go ?_; intro K hK; simp [go_sem, hkl, encD, frz_encF]; (try simp (disch := omega) only [zh, zi, eq_self, true_and]); (first | apply hK | ((try refine .inl ?_); refine ⟨_, by (try intro hc); (repeat' first | exact f74s | exact hc | refine And.intro ?_ ?_ | simp [go_sem, hkl, encD, frz_encF]); first | done | omega, ?_⟩; first | apply hK | (refine ⟨by simp [go_sem, hkl, encD, frz_encF], ?_⟩; first | apply hK | refine ⟨by simp [go_sem, hkl, encD, frz_encF], hK _ _ ?_⟩)) | refine ⟨.one (.one (.bool false)), by simp [go_sem, hkl, encD, frz_encF], hK _ _ ?_⟩ | refine ⟨by first | omega | (simp [zf, zg, hkl, encD, frz_encF]; first | done | omega), ?_⟩ | refine ⟨hK _ ?_, fun h => ?_⟩ | refine ⟨?_, ?_⟩); all_goals ((try apply hK); clear hK K))
             refine zj (n - 1) _ (by omega) ⟨i + 1, by omega, ?_, rfl⟩ ?_
             ·rw [range_succ_all, hall, hoi]; rfl
             ·simp [go_sem]
       ·have hv := hbad (by rw [hok]; simp [hfst])
        repeat' first | refine St.go ?_ | ((with_reducible refine zY (t := ?_) ?hc (fun h => ?_) (fun h => ?_)); (case hc => rfl); all_goals (try simp [go_sem, hlt, hd, encD, h4', hfst] at h); all_goals try omega) | (refine Ru.go ?_; intro K hK; simp [go_sem, hlt, hd, encD, h4', hfst]; (try simp (disch := omega) only [zh, zi, eq_self, true_and]); (first | apply hK | ((try refine .inl ?_); refine ⟨_, by (try intro hc); (repeat' first | exact f68s | exact hc | refine And.intro ?_ ?_ | simp [go_sem, hlt, hd, encD, h4', hfst]); first | done | omega, ?_⟩; first | apply hK | (refine ⟨by simp [go_sem, hlt, hd, encD, h4', hfst], ?_⟩; first | apply hK | refine ⟨by simp [go_sem, hlt, hd, encD, h4', hfst], hK _ _ ?_⟩)) | refine ⟨.one (.one (.bool false)), by simp [go_sem, hlt, hd, encD, h4', hfst], hK _ _ ?_⟩ | refine ⟨by first | omega | (simp [zf, zg, hlt, hd, encD, h4', hfst]; first | done | omega), ?_⟩ | refine ⟨hK _ ?_, fun h => ?_⟩ | refine ⟨?_, ?_⟩); all_goals ((try apply hK); clear hK K))
        simp [go_sem, hv]
      ·have h4' : (4 : Int) < (d.fields.length : Int) := by omega
       have hv := hbad (by rw [hok]; simp [h4])
       repeat' first | refine St.go ?_ | ((with_reducible refine zY (t := ?_) ?hc (fun h => ?_) (fun h => ?_)); (case hc => rfl); all_goals (try simp [go_sem, hlt, hd, encD, h4'] at h); all_goals try omega) | (refine Ru.go ?_; intro K hK; simp [go_sem, hlt, hd, encD, h4']; (try simp (disch := omega) only [zh, zi, eq_self, true_and]); (first | apply hK | ((try refine .inl ?_); refine ⟨_, by (try intro hc); (repeat' first | exact f68s | exact hc | refine And.intro ?_ ?_ | simp [go_sem, hlt, hd, encD, h4']); first | done | omega, ?_⟩; first | apply hK | (refine ⟨by simp [go_sem, hlt, hd, encD, h4'], ?_⟩; first | apply hK | refine ⟨by simp [go_sem, hlt, hd, encD, h4'], hK _ _ ?_⟩)) | refine ⟨.one (.one (.bool false)), by simp [go_sem, hlt, hd, encD, h4'], hK _ _ ?_⟩ | refine ⟨by first | omega | (simp [zf, zg, hlt, hd, encD, h4']; first | done | omega), ?_⟩ | refine ⟨hK _ ?_, fun h => ?_⟩ | refine ⟨?_, ?_⟩); all_goals ((try apply hK); clear hK K))
       simp [go_sem, hv]
   ·have hie : i = l.length := by omega
    rw [hie] at hall
    repeat' first | refine St.go ?_ | ((with_reducible refine zY (t := ?_) ?hc (fun h => ?_) (fun h => ?_)); (case hc => rfl); all_goals (try simp [go_sem, hlt] at h); all_goals try omega) | (refine Ru.go ?_; intro K hK; simp [go_sem, hlt]; (try simp (disch := omega) only [zh, zi, eq_self, true_and]); (first | apply hK | refine ⟨by first | omega | (simp [zf, zg, hlt]; first | done | omega), ?_⟩ | refine ⟨hK _ ?_, fun h => ?_⟩ | refine ⟨?_, ?_⟩); all_goals ((try apply hK); clear hK K))
    have hv : validD l = true := by simp only [validD, h40, decide_true, Bool.true_and, ← hA, h24, hall]
    simp [go_sem, hv]
  ·have h24' : (24 : Int) < (all.length : Int) := by omega
   repeat' first | refine St.go ?_ | ((with_reducible refine zY (t := ?_) ?hc (fun h => ?_) (fun h => ?_)); (case hc => rfl); all_goals (try simp [go_sem, h40', h24'] at h); all_goals try omega) | (refine Ru.go ?_; intro K hK; simp [go_sem, h40', h24']; (try simp (disch := omega) only [zh, zi, eq_self, true_and]); (first | apply hK | ((try refine .inl ?_); refine ⟨_, by (try intro hc); (repeat' first | exact f67s | exact hc | refine And.intro ?_ ?_ | simp [go_sem, h40', h24']); first | done | omega, ?_⟩; first | apply hK | (refine ⟨by simp [go_sem, h40', h24'], ?_⟩; first | apply hK | refine ⟨by simp [go_sem, h40', h24'], hK _ _ ?_⟩)) | refine ⟨.one (.one (.bool false)), by simp [go_sem, h40', h24'], hK _ _ ?_⟩ | refine ⟨by first | omega | (simp [zf, zg, h40', h24']; first | done | omega), ?_⟩ | refine ⟨hK _ ?_, fun h => ?_⟩ | refine ⟨?_, ?_⟩); all_goals ((try apply hK); clear hK K))
   have hv : validD l = false := by simp [validD, ← hA, h24]
   simp [go_sem, hv]
 ·have h40' : (40 : Int) < (l.length : Int) := by omega
  repeat' first | refine St.go ?_ | ((with_reducible refine zY (t := ?_) ?hc (fun h => ?_) (fun h => ?_)); (case hc => rfl); all_goals (try simp [go_sem, h40'] at h); all_goals try omega) | (refine Ru.go ?_; intro K hK; simp [go_sem, h40']; (try simp (disch := omega) only [zh, zi, eq_self, true_and]); (first | apply hK | refine ⟨by first | omega | (simp [zf, zg, h40']; first | done | omega), ?_⟩ | refine ⟨hK _ ?_, fun h => ?_⟩ | refine ⟨?_, ?_⟩); all_goals ((try apply hK); clear hK K))
  have hv : validD l = false := by simp [validD, h40]
  simp [go_sem, hv]
end Go.Av
namespace Go.Av
open Go Go.RowKit Go.Proofs
set_option maxRecDepth 8000
end Go.Av
namespace Go.Av
open Go Go.RowKit Go.Proofs
set_option maxRecDepth 8000
def boundsAt (d : Dcl) (i : Nat) : List Dff := match d.fields[i]? with
 | some f => [⟨d.first + i, -1, f.hi⟩, ⟨-1, d.first + i, 0 - f.lo⟩]
 | none => []
def boundsF (d : Dcl) (k : Nat) : List Dff := (List.range k).flatMap (boundsAt d)
def boundsE (es : List (Int × Int)) : List Dff := es.flatMap fun e => [⟨e.1, e.2, 0⟩, ⟨e.2, e.1, 0⟩]
def boundsOf (d : Dcl) : List Dff := boundsF d d.fields.length ++ d.diffs ++ boundsE d.equals
theorem boundsF_succ {d : Dcl} {k : Nat} (h : k < d.fields.length) : boundsF d (k + 1) = boundsF d k ++ [⟨d.first + k, -1, d.fields[k].hi⟩, ⟨-1, d.first + k, 0 - d.fields[k].lo⟩] := by
 simp [boundsF, List.range_succ, boundsAt, h]
theorem boundsF_len (d : Dcl) : ∀ k, (boundsF d k).length ≤ 2 * k
 | 0 => by simp [boundsF]
 | k + 1 => by
   have ih := boundsF_len d k
   have : (boundsAt d k).length ≤ 2 := by unfold boundsAt; split <;> simp
   have e : boundsF d (k + 1) = boundsF d k ++ boundsAt d k := by simp [boundsF, List.range_succ]
   rw [e, List.length_append]
   omega
theorem boundsE_len : ∀ l : List (Int × Int), (boundsE l).length = 2 * l.length
 | [] => rfl
 | e :: l => by
   have := boundsE_len l
   simp only [boundsE, List.flatMap_cons, List.length_append, List.length_cons, List.length_nil] at this ⊢
   omega
theorem boundsE_succ {l : List (Int × Int)} {k : Nat} (h : k < l.length) : boundsE (l.take (k + 1)) = boundsE (l.take k) ++ [⟨l[k].1, l[k].2, 0⟩, ⟨l[k].2, l[k].1, 0⟩] := by
 unfold boundsE
 rw [List.take_succ_eq_append_getElem h, List.flatMap_append]
 simp
theorem f61 (d : Dcl) (hf : d.fields.length ≤ 100) (hd : d.diffs.length ≤ 1000) (he : d.equals.length ≤ 1000) (hfst : -1000000 ≤ d.first ∧ d.first ≤ 1000000) (hlo : ∀ f ∈ d.fields, -1000000 ≤ f.lo ∧ f.lo ≤ 1000000) :
  Impl Tryd.prog 61 [.ag (encD d)] (.one (.one (.ow 3 ((boundsOf d).map encDf)))) := by
 refine impl_z Tryd.func61 z61 Tryd.ntmps61 (by simp) ?_
 simp only [c61, slotsOf]
 repeat' first | refine St.go ?_ | ((with_reducible refine zY (t := ?_) ?hc (fun h => ?_) (fun h => ?_)); (case hc => rfl); all_goals (try simp [go_sem, encD] at h); all_goals try omega) | (refine Ru.go ?_; intro K hK; simp [go_sem, encD]; (try simp (disch := omega) only [zh, zi, eq_self, true_and]); (first | apply hK | refine ⟨by first | omega | (simp [zf, zg, encD]; first | done | omega), ?_⟩ | refine ⟨hK _ ?_, fun h => ?_⟩ | refine ⟨?_, ?_⟩); all_goals ((try apply hK); clear hK K))
 refine zk (fun n e => ∃ k : Nat, k + n = d.fields.length ∧ e = [(11, .sv (.one (.int .i64 k))), (10, .sv (.one (.int .i64 d.fields.length))), (9, .sv (.one (.sl (d.fields.map encF)))), (3, .sv (.one (.ow 3 ((boundsF d k).map encDf)))), (1, .sv (.one (.bx (encD d))))]) d.fields.length _ ⟨0, by simp, rfl⟩ (by simp [go_sem, boundsF, encD]) ?_
 rintro n e ⟨k, hk, rfl⟩
 by_cases hlt : k < d.fields.length
 ·have hbl := boundsF_len d k
  have hs := boundsF_succ hlt
  obtain ⟨f, hfe⟩ : ∃ f, d.fields[k] = f := ⟨_, rfl⟩
  have hlo' := hlo d.fields[k] (List.getElem_mem hlt)
  rw [hfe] at hlo' hs
  have w1 : IntKind.i64.wrap (d.first + (k : Int)) = d.first + k := zh (by omega) (by omega)
  have w2 : IntKind.i64.wrap (0 - f.lo) = 0 - f.lo := zh (by omega) (by omega)
  have w3 : IntKind.i64.wrap (-f.lo) = 0 - f.lo := by rw [zh (by omega) (by omega)]; omega
  repeat' first | refine St.go ?_ | ((with_reducible refine zY (t := ?_) ?hc (fun h => ?_) (fun h => ?_)); (case hc => rfl); all_goals (try simp [go_sem, hlt, hfe, encD, encF, w1, w2, w3] at h); all_goals try omega) | (refine Ru.go ?_; intro K hK; simp [go_sem, hlt, hfe, encD, encF, w1, w2, w3]; (try simp (disch := omega) only [zh, zi, eq_self, true_and]); (first | apply hK | refine ⟨by first | omega | (simp [zf, zg, hlt, hfe, encD, encF, w1, w2, w3, maxLen, DV.flat, encDf]; first | done | omega), ?_⟩ | refine ⟨hK _ ?_, fun h => ?_⟩ | refine ⟨?_, ?_⟩); all_goals ((try apply hK); clear hK K))
  refine zj (n - 1) _ (by omega) ⟨k + 1, by omega, rfl⟩ ?_
  simp [go_sem, hs, encD, encDf]
 ·have hke : k = d.fields.length := by omega
  subst hke
  have hbl := boundsF_len d d.fields.length
  repeat' first | refine St.go ?_ | ((with_reducible refine zY (t := ?_) ?hc (fun h => ?_) (fun h => ?_)); (case hc => rfl); all_goals (try simp [go_sem, hlt, encD] at h); all_goals try omega) | (refine Ru.go ?_; intro K hK; simp [go_sem, hlt, encD]; (try simp (disch := omega) only [zh, zi, eq_self, true_and]); (first | apply hK | refine ⟨by first | omega | (simp [zf, zg, hlt, encD, maxLen, DV.flat, encDf]; first | done | omega), ?_⟩ | refine ⟨hK _ ?_, fun h => ?_⟩ | refine ⟨?_, ?_⟩); all_goals ((try apply hK); clear hK K))
  refine zk (fun n e => ∃ k : Nat, k + n = d.equals.length ∧ e = [(46, .sv (.one (.int .i64 k))), (45, .sv (.one (.int .i64 d.equals.length))), (44, .sv (.one (.sl (d.equals.map encEq)))), (3, .sv (.one (.ow 3 ((boundsF d d.fields.length ++ d.diffs ++ boundsE (d.equals.take k)).map encDf))))]) d.equals.length _ ⟨0, by simp, rfl⟩ (by simp [go_sem, boundsE]) ?_
  rintro n e ⟨k, hk, rfl⟩
  by_cases hlt2 : k < d.equals.length
  ·have hbe := boundsE_len (d.equals.take k)
   have htk : (d.equals.take k).length ≤ d.equals.length := by rw [List.length_take]; omega
   have hs := boundsE_succ hlt2
   repeat' first | refine St.go ?_ | ((with_reducible refine zY (t := ?_) ?hc (fun h => ?_) (fun h => ?_)); (case hc => rfl); all_goals (try simp [go_sem, hlt2, encEq] at h); all_goals try omega) | (refine Ru.go ?_; intro K hK; simp [go_sem, hlt2, encEq]; (try simp (disch := omega) only [zh, zi, eq_self, true_and]); (first | apply hK | refine ⟨by first | omega | (simp [zf, zg, hlt2, encEq, maxLen, DV.flat, encDf]; first | done | omega), ?_⟩ | refine ⟨hK _ ?_, fun h => ?_⟩ | refine ⟨?_, ?_⟩); all_goals ((try apply hK); clear hK K))
   refine zj (n - 1) _ (by omega) ⟨k + 1, by omega, rfl⟩ ?_
   simp [go_sem, hs, encDf]
  ·have hkl : d.equals.take k = d.equals := List.take_of_length_le (by omega)
   repeat' first | refine St.go ?_ | ((with_reducible refine zY (t := ?_) ?hc (fun h => ?_) (fun h => ?_)); (case hc => rfl); all_goals (try simp [go_sem, hlt2, hkl] at h); all_goals try omega) | (refine Ru.go ?_; intro K hK; simp [go_sem, hlt2, hkl]; (try simp (disch := omega) only [zh, zi, eq_self, true_and]); (first | apply hK | refine ⟨by first | omega | (simp [zf, zg, hlt2, hkl]; first | done | omega), ?_⟩ | refine ⟨hK _ ?_, fun h => ?_⟩ | refine ⟨?_, ?_⟩); all_goals ((try apply hK); clear hK K))
   simp [go_sem, boundsOf]
end Go.Av
